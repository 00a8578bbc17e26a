/- The document's Apply: what it answers. The condition: the lists are not too long, the mark's Kvs in order, keys are not too long, versions small (StepD). -/
import Derived.Test.YthljnnjpmdgkoaaGreatK31
import Derived.Test.YthljnnjpmdgkoaaGreatK33
import Derived.Test.YthljnnjpmdgkoaaGreatK17
namespace Go.Proofs.YthljnnjpmdgkoaaGreat
open Go Go.Proofs Go.RowKit
set_option maxRecDepth 100000
theorem zfx (y:Ans×Value) (h:y.2.oneCell'=true):∀ u∈ansC y,u.oneCell'=true:=by
 intro u a;simp [ansC] at a;rcases a with rfl | rfl | rfl | rfl
 · rfl
 · exact h
 · rfl
 rfl
theorem SlF.one {α:Type} {f:α->List Value} (w:World) (e sz:Nat) (x:α) (hl:(f x).length=sz):SlF (w.alloc (.cells (f x).toArray e (0,0))) e sz f (.slice (some ⟨w.heap.size,0,none⟩) [x].length 1) [x]:=by
 unfold SlF Sl;refine ⟨by simp [hl],.inr ⟨_,0,1,(f x).toArray,rfl,zad _ _ _ rfl,Nat.le_refl 1,by unfold maxLen;omega,by simp [hl],by simp [<-hl]⟩⟩
theorem zrs {X:World} {b:Nat} {a0 a1 a2 a3:Value} (hk:X.heap[b]?=some (.cells #[a0,a1,a2,a3] 97 (0,0))) (v1 v2 v3:Value) :
 ∃ Z,(((X.setCell ⟨b,1,none⟩ v1).setCell ⟨b,2,none⟩ v2).setCell ⟨b,3,none⟩ v3)=Z/\Z.heap[b]?=some (.cells #[a0,v1,v2,v3] 97 (0,0))/\Fr (fun j=>j=b) X Z:=by
 have a:=zab hk 1 v1;have d:=zab a 2 v2;have c:=zab d 3 v3;exact ⟨_,rfl,by rw [c];simp,(((Fr.refl (fun j=>j=b) X).setCell (p:=⟨b,1,none⟩) (.inl rfl) _).setCell (p:=⟨b,2,none⟩) (.inl rfl) _).setCell (p:=⟨b,3,none⟩) (.inl rfl) _⟩
theorem zom {X:World} {b:Nat} {a0 a1 a2 a3:Value} (hk:X.heap[b]?=some (.cells #[a0,a1,a2,a3] 97 (0,0))) (v1 v2:Value) :
 ∃ Z,((X.setCell ⟨b,1,none⟩ v1).setCell ⟨b,2,none⟩ v2)=Z/\Z.heap[b]?=some (.cells #[a0,v1,v2,a3] 97 (0,0))/\Fr (fun j=>j=b) X Z:=by
 have a:=zab hk 1 v1;have c:=zab a 2 v2;exact ⟨_,rfl,by rw [c];simp,((Fr.refl (fun j=>j=b) X).setCell (p:=⟨b,1,none⟩) (.inl rfl) _).setCell (p:=⟨b,2,none⟩) (.inl rfl) _⟩
structure StepD (r:RunD) (o:Opr):Prop where
 ks:KSorted r.now
 len:r.now.length<=1000000
 ev:r.E.length<=1000000
 ans:r.A.length<=1000000
 ver:0<=(wasL r.now o.rg.key).version/\(wasL r.now o.rg.key).version<=1099511627776
 one:oneE o=0
structure ApS (W2 w:World) (nv av ev:Value) (Z:List (Ans×Value)) (now:List Kv) (E:List Ev):Prop where
 nw:SlR w 6 kvC nv now
 ans:AnsR w av Z
 evs:SlF w 101 13 evC ev E
 fr:Fr No W2 w
 na:∀ b,ansF av Z b->W2.heap.size<=b
 ne:∀ b,ev.ownBlock=some b->W2.heap.size<=b
 xn:0<now.length->∀ b,nv.ownBlock=some b->av.ownBlock≠some b/\ev.ownBlock≠some b
 xa:∀ b,ansF av Z b->ev.ownBlock≠some b
theorem ApS.fr0 {W2 w w':World} {nv av ev:Value} {Z:List (Ans×Value)} {now:List Kv} {E:List Ev} (h:ApS W2 w nv av ev Z now E) (hf:Fr No w w'):ApS W2 w' nv av ev Z now E :=
 ⟨h.nw.fr0 hf,h.ans.fr hf fun _ _ s=>s,h.evs.fr0 hf,h.fr.trans0 hf,h.na,h.ne,h.xn,h.xa⟩
theorem ApS.done {W2 w w':World} {nv av ev nv':Value} {Z:List (Ans×Value)} {now now':List Kv} {E:List Ev} (h:ApS W2 w nv av ev Z now E) (hf:Fr No w w') (hs:SlF w' 99 6 kvC nv' now') (ho:∀ b,nv'.ownBlock=some b->w.heap.size<=b):ApS W2 w' nv' av ev Z now' E:=by
 have a:=h.fr0 hf;refine ⟨hs.toR zae,a.ans,a.evs,a.fr,h.na,h.ne,fun _ b hb=>⟨fun e=>?_,fun e=>?_⟩,h.xa⟩
 · have:=h.ans.lt b (.inl e);have:=ho b hb;omega
 have:=h.evs.lt b e;have:=ho b hb;omega
theorem ApS.event {W2 w w':World} {nv av ev ev':Value} {Z:List (Ans×Value)} {now:List Kv} {E E':List Ev} (h:ApS W2 w nv av ev Z now E) (hf:Fr (fun b=>ev.ownBlock=some b) w w') (hs:SlF w' 101 13 evC ev' E') (ho:∀ b,ev'.ownBlock=some b->ev.ownBlock=some b\/w.heap.size<=b):ApS W2 w' nv av ev' Z now E':=by
 have a:=h.fr.size;refine ⟨h.nw.frp hf fun h0 b hb e=>(h.xn h0 b hb).2 e,h.ans.fr hf fun b hb e=>h.xa b hb e,hs,h.fr.trans hf fun b hb e=>absurd (h.ne b e) (by omega),h.na,fun b hb=>?_,fun h0 b hb=>⟨(h.xn h0 b hb).1,fun e=>?_⟩,fun b hb e=>?_⟩
 · rcases ho b hb with e | e
   · exact h.ne b e
   omega
 · rcases ho b e with e | e
   · exact (h.xn h0 b hb).2 e
   have:=h.nw.lt zae (by decide) h0 b hb;omega
 rcases ho b e with e | e
 · exact h.xa b hb e
 have:=h.ans.lt b hb;omega
theorem ApS.answer {W2 w w':World} {nv av ev av' kv:Value} {a:Ans} {Z:List (Ans×Value)} {now:List Kv} {E:List Ev} (h:ApS W2 w nv av ev Z now E) (hf:Fr (fun b=>av.ownBlock=some b) w w') (hs:SlF w' 97 4 ansC av' (Z++[(a,kv)]))
 (hk:SlF w 99 6 kvC kv a.kvs) (hd:∀ b,kv.ownBlock=some b->av.ownBlock≠some b/\ev.ownBlock≠some b/\W2.heap.size<=b) (ho:∀ b,av'.ownBlock=some b->av.ownBlock=some b\/w.heap.size<=b):ApS W2 w' nv av' ev (Z++[(a,kv)]) now E:=by
 have j:=h.fr.size
 have c:∀ b,ansF av' (Z++[(a,kv)]) b->ansF av Z b\/w.heap.size<=b\/kv.ownBlock=some b:=by
  rintro b (e | ⟨i,q,c,e⟩)
  · rcases ho b e with e | e
    · exact .inl (.inl e)
    exact .inr (.inl e)
  rcases Nat.lt_or_ge i Z.length with g | g
  · rw [List.getElem?_append_left g] at c
    exact .inl (.inr ⟨i,q,c,e⟩)
  rw [List.getElem?_append_right g] at c
  have d:=(List.getElem?_eq_some_iff.1 c).1;have:i-Z.length=0:=(by simp at d;omega);rw [this] at c;obtain rfl:(a,kv)=q:=by simpa using c
  exact .inr (.inr e)
 refine ⟨h.nw.frp hf fun d b hb e=>(h.xn d b hb).1 e,h.ans.snoc hf hs hk (fun b hb=>(hd b hb).1) ho,h.evs.fr hf fun b hb e=>h.xa b (.inl e) hb,h.fr.trans hf fun b hb e=>absurd (h.na b (.inl e)) (by omega),fun b hb=>?_,h.ne,fun d b hb=>⟨fun e=>?_,(h.xn d b hb).2⟩,fun b hb e=>?_⟩
 · rcases c b hb with e | e | e
   · exact h.na b e
   · omega
   exact (hd b e).2.2
 · rcases ho b e with e | e
   · exact (h.xn d b hb).1 e
   have:=h.nw.lt zae (by decide) d b hb;omega
 rcases c b hb with f | f | f
 · exact h.xa b f e
 · have:=h.evs.lt b e;omega
 exact (hd b f).2.1 e
def ApplyX (de:Int) (A:List Ans) (L:List Ev) (DD D0:Doc) (u1 u2:Value) (w:World) (e:Ending) (w':World):Prop :=
 ∃ v av a c Z,e=.returned (.tuple #[v,av,.slice a L.length c,.int .i64 de])/\DocVN DD w D0 u1 u2 w' v/\AnsR w' av Z/\Z.map (·.1)=A/\SlR w' 13 evC (.slice a L.length c) L/\Fr No w w'
theorem ApplyX.of {de de':Int} {A:List Ans} {L L':List Ev} {DD D0:Doc} {u1 u2:Value} {w w':World} {v av:Value} {a:Option Addr} {c n:Nat} {Z:List (Ans×Value)} (h1:de=de') (h2:L=L') (hn:n=L'.length) (h3:DocVN DD w D0 u1 u2 w' v) (h4:SlR w' 13 evC (.slice a L'.length c) L') (hA:AnsR w' av Z) (hZ:Z.map (·.1)=A) (h5:Fr No w w') :
 ApplyX de A L DD D0 u1 u2 w (.returned (.tuple #[v,av,.slice a n c,.int .i64 de'])) w':=by
 subst h1 h2 hn;exact ⟨v,av,a,c,Z,rfl,h3,hA,hZ,h4,h5⟩
def zwj (D:Doc) (ops:List Opr) (u1 u2:Value) (w:World) (e:Ending) (w':World):Prop:=ApplyX (zbc D ops) (if zbc D ops=0 then (runD D ops).A else []) (if zbc D ops=0 then (runD D ops).E else []) (zdn D ops) D u1 u2 w e w'
theorem zle {D:Doc} {ops:List Opr} {i:Nat} (h:zba D (ops.take i)≠0):zba D ops=zba D (ops.take i):=by
 unfold zba at h ⊢
 cases hf:(ops.take i).find? fun o=>o.kind==3&&whenD D o.rg.rev != 0 with
 | none=>rw [hf] at h;exact absurd rfl h
 | some o =>
   have:ops.find? (fun o=>o.kind==3&&whenD D o.rg.rev != 0)=some o:=by
    conv=>lhs;rw [<-List.take_append_drop i ops]
    rw [List.find?_append,hf]
    rfl
   rw [this]
theorem zlf {D:Doc} {ops:List Opr} {i:Nat} {o:Opr} (ho:ops[i]?=some o) (h:zba D (ops.take i)=0):zba D (ops.take (i+1))=if o.kind=3 then whenD D o.rg.rev else 0:=by
 have a:(ops.take i).find? (fun o=>o.kind==3&&whenD D o.rg.rev != 0)=none:=by
  unfold zba at h
  cases hf:(ops.take i).find? fun o=>o.kind==3&&whenD D o.rg.rev != 0 with
  | none=>rfl
  | some q =>
    rw [hf] at h;have:=List.find?_some hf;simp at this;exact absurd h this.2
 unfold zba;rw [List.take_add_one,ho,Option.toList_some,List.find?_append,a,Option.none_or,List.find?_cons];by_cases hk:o.kind=3
 · rw [if_pos hk,hk]
   by_cases hw:whenD D o.rg.rev=0
   · rw [hw];rfl
   have:((3:Int)==3&&whenD D o.rg.rev != 0)=true:=by simp [hw]
   rw [this]
 rw [if_neg hk]
 have:(o.kind==3&&whenD D o.rg.rev != 0)=false:=(by simp [hk]);rw [this]
 rfl
theorem zyh (o:Opr) (l:List Kv):(allA (delG o) l).length=(outA (delG o) l).length:=by
 rw [zgz];unfold allA delG;simp
set_option maxHeartbeats 32000000 in
theorem zkj (w:World) (D:Doc) (a1 a2:Option Addr) (k1 k2:Nat) (hD:DocR w D (.slice a1 D.kvs.length k1) (.slice a2 D.events.length k2)) (hs:KSorted D.kvs) (hl:D.kvs.length+D.events.length<=1000000) (hr : -1099511627776<=D.rev/\D.rev<=1099511627776)
 (vo:Value) (ops:List Opr) (hv:SlR w 10 opC vo ops) (hlo:ops.length<=100000) (hks:∀ o∈ops,o.rg.key.size<=1099511627776)
 (hrun:checkE ops=0->zba D ops=0->∀ i o,ops[i]?=some o->StepD (runD D (ops.take i)) o) (hfin:checkE ops=0->zba D ops=0->(runD D ops).E.length<=1000000) :
 Calls Tryz.prog 59 #[docV D (.slice a1 D.kvs.length k1) (.slice a2 D.events.length k2),vo] w (zwj D ops (.slice a1 D.kvs.length k1) (.slice a2 D.events.length k2) w):=by
 obtain ⟨oa,oc,rfl,h7,gZ,ew⟩:=hv.shape;have df:=fun W (hW:Fr No w W)=>zdr W _ ops (hv.fr0 hW) (by omega) hks;have bY:=fun W r=>zlp W D a1 a2 D.kvs.length D.events.length k1 k2 r;have eA:=fun W (hW:Fr No w W) r=>zjc W D _ _ (hD.fr0 hW) hs (by omega) r
 have eU:∀ r,(D.at r).length<=1000000:=fun r=>by
  rw [<-zim];have:=zil D r D.events.length;omega
 have dn:=fun W (hW:Fr No w W) a3 k3 E hE (aR:E.length<=1000000)=>zjb W D a1 a2 a3 D.kvs.length k1 k2 k3 E (hD.evs.fr0 hW) hE (by omega) hr;have eT:=fun W (hW:Fr No w W)=>hD.fr0 hW;have gX:IntKind.i64.wrap (D.rev+1)=D.rev+1:=by rw [IntKind.wrap_i64];omega
 have ee:zbc D ops=if checkE ops≠0 then checkE ops else if zba D ops≠0 then zba D ops else if (runD D ops).E≠[]/\1099511627776<=D.rev then 37 else 0:=rfl;obtain ⟨i0,dK,dH,dE,dw⟩:=info_parts info73;obtain ⟨i1,cc,ci,cB,cp⟩:=info_parts info90;have eB:((w.alloc (Obj.cells #[.int .i64 D.rev,.int .i64 D.mark,.slice a1 D.kvs.length k1,.slice a2 D.events.length k2] 30)).alloc (Obj.cells #[.int .i64 0,.int .i64 0,.slice none 0 0,.slice none 0 0] 30)).heap[w.heap.size]?=some (Obj.cells #[.int .i64 D.rev,.int .i64 D.mark,.slice a1 D.kvs.length k1,.slice a2 D.events.length k2] 30 (0,0)):=zaj (zad w _ _ rfl) _
 have el:((w.alloc (Obj.cells #[.int .i64 D.rev,.int .i64 D.mark,.slice a1 D.kvs.length k1,.slice a2 D.events.length k2] 30)).alloc (Obj.cells #[.int .i64 0,.int .i64 0,.slice none 0 0,.slice none 0 0] 30)).heap[w.heap.size+1]?=some (Obj.cells #[.int .i64 0,.int .i64 0,.slice none 0 0,.slice none 0 0] 30 (0,0)):=zad _ _ _ (by simp);have ez:Fr No w ((w.alloc (Obj.cells #[.int .i64 D.rev,.int .i64 D.mark,.slice a1 D.kvs.length k1,.slice a2 D.events.length k2] 30)).alloc (Obj.cells #[.int .i64 0,.int .i64 0,.slice none 0 0,.slice none 0 0] 30)):=((Fr.refl No w).alloc _).alloc _;have f6:=H_ eB;have e7:=H_ el;have ah:=H_ ez;have dl:=H_ df;have dG:=H_ bY
 have eu:=H_ eA;have fw:=H_ eU;have eP:=H_ dn;have cy:=H_ eT;have cT:=H_ ee;have dh:=H_ hrun;have dg:=H_ hfin;have HV:=H_ hv;have dV:=H_ ew;clear eB el ez df bY eA eU dn eT ee hrun hfin hv ew hD hs hl hks;unfold docV at *;go_enter Tryz.func59,Tryz.ntmps59;go_upto_region 1 with fail;generalize (w.alloc (Obj.cells #[.int .i64 D.rev,.int .i64 D.mark,.slice a1 D.kvs.length k1,.slice a2 D.events.length k2] 30)).alloc (Obj.cells #[.int .i64 0,.int .i64 0,.slice none 0 0,.slice none 0 0] 30)=W2 at *;generalize gF:w.heap.size+1=rb at *;generalize hd:w.heap.size=db at *;have HS:=H_ (fun W (hW:Fr No W2 W)=>cells4 (hW.heap f6.out id))
 have HR:Hid (∀ W,Fr No W2 W->W.heap[rb]?=some (Obj.cells #[.int .i64 0,.int .i64 0,.slice none 0 0,.slice none 0 0] 30 (0,0))):=H_ (fun W hW=>hW.heap e7.out id);have gP:db≠rb:=by omega
 have l1:=zaa f6.out;have l2:=zaa e7.out;go_upto_region 3 with (go_at_call 112;(with_reducible refine (dl.out _ ah.out).mono ?_);rintro e w3 ⟨rfl,h3⟩);have fn:=H_ h3;clear h3;generalize em:checkE ops=ce at *;have gI:=H_ em;clear em
 go_loopg [8,9] ops.length (fun g s8 s9 wr=>∃ (i:Nat) (E:Int),s8=.int .i64 E/\s9=.int .i64 i/\i+g=ops.length/\Hid ((ce≠0/\E=ce/\i=0)\/(ce=0/\E=zba D (ops.take i)))/\Hid (Fr No W2 wr))
 case atStart=>exact ⟨0,ce,rfl,rfl,by omega,H_ (by
  by_cases h:ce=0
  · exact .inr ⟨h,h⟩
  exact .inl ⟨h,rfl,rfl⟩),fn⟩
 case round =>
  obtain ⟨i,E,rfl,rfl,hi,HE,HF⟩:=hrel;by_cases hE0:E=0
  · subst hE0
    have fA:ce=0:=by
     rcases HE.out with ⟨a,b,_⟩ | ⟨a,_⟩
     · exact absurd b.symm a
     exact a
    have d7:zba D (ops.take i)=0:=by
     rcases HE.out with ⟨a,b,_⟩ | ⟨_,a⟩
     · exact absurd b.symm a
     exact a.symm
    subst fA;have cf:=H_ d7;clear d7 HE
    cases gk with
    | succ g =>
      have cN:(i:Int)<(ops.length:Int):=(by omega);obtain ⟨x,hx⟩:∃ x,ops[i]?=some x:=⟨_,List.getElem?_eq_getElem (by omega)⟩;obtain ⟨go,oo,rfl⟩:=dV.out (by omega);have eO:=zlf hx cf.out;have dI:=HV.out.fr0 (ah.out.trans0 HF.out);have c0:=dI.cell0 zaf i hx rfl;have c3:=dI.cell zaf i 3 hx rfl;have lo:=World.block_lt_of_cell? _ _ c0;have dF:=H_ eO;clear eO dI hx;obtain ⟨p1,⟨n,m,p,q,s,u,v⟩,p2,p3⟩:=x;dsimp only at c0 c3 dF;by_cases hk:p1=3
      · subst hk
        have b1:=HS.out wr HF.out;have fj:=And.intro c3 b1;have fE:=And.intro (show wr.drew.cell? ⟨go,oo+i * 10+3,none⟩=some (.int .i64 p) from c3) (HS.out wr.drew HF.out.drew);go_upto_region 6 with fail
        go_region_held3 (fun W=>W.cell? ⟨go,oo+i * 10+3,none⟩=some (.int .i64 p)/\W.cell? ⟨db,0,none⟩=some (.int .i64 D.rev)/\W.cell? ⟨db,1,none⟩=some (.int .i64 D.mark)/\W.cell? ⟨db,2,none⟩=some (.slice a1 D.kvs.length k1)/\W.cell? ⟨db,3,none⟩=some (.slice a2 D.events.length k2))
         (first | with_reducible exact fj | with_reducible exact fE | with_reducible exact fH)
         (first
           | (go_at_call 106;(with_reducible refine (dG.out _ p).mono ?_);rintro e w5 ⟨rfl,h5⟩
              have G5:=H_ (HF.out.drew.trans0 h5);have fH:=And.intro ((Fr.refl No wr).drew.trans0 h5 |>.cell0 c3) (HS.out w5 G5.out);clear h5))
        go_wp2;go_roundg g
        case rel=>exact ⟨i+1,whenD D p,rfl,by go_num,by omega,H_ (.inr ⟨by first | rfl | trivial,by rw [dF.out];first | rw [if_pos rfl] | simp⟩),G5⟩
        case measure=>omega
      have gN:(p1==3)=false:=beq_eq_false_iff_ne.2 hk
      go_wp2;go_roundg g
      case rel=>exact ⟨i+1,0,rfl,by go_num,by omega,H_ (.inr ⟨by first | rfl | trivial,by rw [dF.out,if_neg hk]⟩),HF⟩
      case measure=>omega
    | zero =>
      have cN:¬ (i:Int)<(ops.length:Int):=(by omega);have dN:i=ops.length:=(by omega);subst dN;rw [List.take_length] at cf;obtain ⟨x0,x1,x2,x3⟩:=HS.out wr HF.out;have lx:=World.block_lt_of_cell? _ _ x0;have dy:=H_ (dh.out (by trivial) cf.out);have dR:=H_ (dg.out (by trivial) cf.out)
      have dc:zbc D ops=if (runD D ops).E≠[]/\1099511627776<=D.rev then 37 else 0:=by
       rw [cT.out,cf.out];simp
      have di:=H_ dc;clear dc dh dg dl cT;go_upto_region 13 with (go_at_call 80;(with_reducible refine (eu.out _ (ah.out.trans0 HF.out) _).mono ?_);rintro e w4 ⟨v4,rfl,eb,h4,_⟩);have dq:ApS W2 w4 v4 (.slice none 0 0) (.slice none 0 0) [] (D.at D.rev) []:=⟨eb,AnsR.nil _,SlF.nil _ _ _ _,HF.out.trans0 h4,by rintro b (e | ⟨_,_,e,_⟩) <;> simp [Value.ownBlock] at e,by simp [Value.ownBlock],by simp [Value.ownBlock],by rintro b (e | ⟨_,_,e,_⟩) <;> simp [Value.ownBlock] at e⟩;have ed:=H_ dq;clear dq eb h4 x0 x1 x2 x3 lx;have fv:∃ w0,w0=wr:=⟨_,rfl⟩;obtain ⟨w0,d7⟩:=fv;subst d7
      go_loopg [10,11,12,13] ops.length (fun g s10 s11 s12 s13 wr=>∃ (i:Nat) (nv av ev:Value) (Z:List (Ans×Value)),s10=nv/\s11=av/\s12=ev/\s13=.int .i64 i/\i+g=ops.length/\Hid (ApS W2 wr nv av ev Z (runD D (ops.take i)).now (runD D (ops.take i)).E)/\Hid (Z.map (·.1)=(runD D (ops.take i)).A))
      case atStart=>exact ⟨0,_,_,_,[],rfl,rfl,rfl,rfl,by omega,ed,H_ rfl⟩
      case round =>
       obtain ⟨i,nv,av,ev,Z,rfl,rfl,rfl,rfl,hi,d,a4⟩:=hrel
       cases gk with
       | zero =>
         have cN:¬ (i:Int)<(ops.length:Int):=(by omega);have dN:i=ops.length:=(by omega);subst dN;rw [List.take_length] at d a4;obtain ⟨ea,ec,rfl,_,_,_⟩:=d.out.evs.shape;have aR:(runD D ops).E = []↔(runD D ops).E.length=0:=List.length_eq_zero_iff.symm;have c:=eP.out wr (ah.out.trans0 d.out.fr) ea ec (runD D ops).E (d.out.evs.toR zac) dR.out;unfold zwi docV at c;have eW:(zce D (runD D ops).E).kvs=D.kvs:=(by unfold zce;split <;> rfl);have e9:zbc D ops=0->zdn D ops=zce D (runD D ops).E:=fun h=>if_pos h;have eY:zbc D ops=0->(if zbc D ops=0 then (runD D ops).A else [])=(runD D ops).A:=fun h=>if_pos h;have eC:zbc D ops=0->(if zbc D ops=0 then (runD D ops).E else [])=(runD D ops).E:=fun h=>if_pos h;generalize fi:zce D (runD D ops).E=BD at *;have bP:=H_ eW
         have HB:=H_ c;have ex:=H_ e9;have ey:=H_ eY;have eX:=H_ eC;clear c eW fi e9 eY eC;have bb:=di.out;generalize eM:(runD D ops).E=E at d a4 aR HB bb;have eL:=H_ eM;clear eM di;obtain ⟨x0,x1,x2,x3⟩:=HS.out wr d.out.fr;have lx:=World.block_lt_of_cell? _ _ x0;by_cases hbad:E≠[]/\1099511627776<=D.rev
         · rw [if_pos hbad] at bb
           have eK:0<(E.length:Int):=by
            have:E.length≠0:=fun h=>hbad.1 (aR.2 h);omega
           have eZ:1099511627776<=D.rev:=hbad.2;have cX:=H_ bb;have aJ:Hid (zbc D ops≠0):=H_ (by rw [bb];decide);clear bb hbad aR x0 x1 x2 x3 lx;have B:=HR.out wr d.out.fr;obtain ⟨x0,x1,x2,x3⟩:=HS.out wr d.out.fr;have lx:=World.block_lt_of_cell? _ _ x0;obtain ⟨y0,y1,y2,y3⟩:=cells4 B;have yf:∀ j,(wr).frozen? ⟨rb,j,none⟩=false:=fun j=>by simp [World.frozen?,B]
           have lr:=zaa B;obtain ⟨Zw,hZ,Q,a5,_⟩:=zcx (w:=w) B (.int .i64 D.rev) (.int .i64 D.mark) (.slice a1 D.kvs.length k1) (.slice a2 D.events.length k2);have HZ:=H_ hZ;have aS:=H_ Q;have a9:=H_ (a5 (ah.out.trans0 d.out.fr) (by omega));clear hZ Q a5 B;go_wp2;rw [HZ.out];refine bodyPost_ret (zcy rfl _ _ rb 30 _ (0,0) _ rfl aS.out Tryz.underlying30 rfl (by kernel_rfl)) rfl ?_;refine ApplyX.of cX.out (if_neg aJ.out) rfl ?_ (SlR.nil _ _ _) (AnsR.nil _) (if_neg aJ.out).symm a9.out;rw [show zdn D ops=D from if_neg aJ.out];exact ⟨a1,k1,a2,k2,rfl,cy.out _ a9.out,fun _ h0 h=>.inl ⟨h0,h⟩,fun _ h0 h=>.inl ⟨h0,h⟩⟩
         rw [if_neg hbad] at bb
         have b4:=H_ bb;clear bb;by_cases hE1:E = []
         · subst hE1
           simp only [List.length_nil] at *
           go_wp2_with (go_at_call 111;(with_reducible refine HB.out.mono ?_);rintro e w5 ⟨ba,bc,rfl,aL,h5,ca⟩
                        have B:=HR.out w5 (d.out.fr.trans0 h5);obtain ⟨y0,y1,y2,y3⟩:=cells4 B;have yf:∀ j,w5.frozen? ⟨rb,j,none⟩=false:=fun j=>by simp [World.frozen?,B]
                        have lr:=zaa B;obtain ⟨Zw,hZ,Q,a5,I⟩:=zcx (w:=w) B (.int .i64 BD.rev) (.int .i64 BD.mark) (.slice a1 D.kvs.length k1) (.slice ba BD.events.length bc);have HZ:=H_ hZ;have aS:=H_ Q;have a9:=H_ (a5 ((ah.out.trans0 d.out.fr).trans0 h5) (by omega));have cA:=H_ I;have dA:Hid (0<BD.events.length->∀ b,(Value.slice ba BD.events.length bc).ownBlock=some b->b=rb->False):=H_ (fun h0 b c hbr=>aL.not4 (a0:=.int .i64 0) (a1:=.int .i64 0) (a2:=.slice none 0 0) (a3:=.slice none 0 0) (t:=30) h0 c (by rw [hbr];exact B));have dT:=H_ aL;have H5:=H_ h5;have dW:=H_ ca;clear hZ Q a5 I B aL h5 ca)
           rw [HZ.out];refine bodyPost_ret (zcy rfl _ _ rb 30 _ (0,0) _ rfl aS.out Tryz.underlying30 rfl (by kernel_rfl)) rfl ?_;have ct:Fr (fun j=>j=rb) wr Zw:=((H5.out.mono fun _ _ h=>h.elim)).trans cA.out fun _ _ h=>h;refine ApplyX.of b4.out ((eX.out b4.out).trans eL.out) rfl ?_ ?_ (d.out.ans.fr ct fun b c hbr=>?_) (by rw [ey.out b4.out];exact a4.out) a9.out
           · rw [ex.out b4.out]
             refine ⟨a1,k1,ba,bc,by rw [bP.out];rfl,⟨by rw [bP.out];exact (cy.out _ a9.out).kvs,dT.out.frp cA.out fun h0 b c hbr=>dA.out h0 b c hbr⟩,fun _ h0 h=>.inl ⟨by rw [bP.out] at h0;exact h0,zhp.trans h⟩,fun b h0 c=>(dW.out b h0 c).imp id fun h=>by have:=(ah.out.trans0 d.out.fr).size;omega⟩
           · refine (d.out.evs.toR zac).frp ct fun _ b c hbr=>?_
             have cr:b=rb:=hbr;have h2:=d.out.ne b c;omega
           have cr:b=rb:=hbr
           have h2:=d.out.na b c;omega
         have eK:0<(E.length:Int):=by
          have:E.length≠0:=fun h=>hE1 (aR.2 h);omega
         have eZ:D.rev<1099511627776:=by
          rcases Int.lt_or_le D.rev 1099511627776 with h | h
          · exact h
          exact absurd ⟨hE1,h⟩ hbad
         clear hbad aR hE1
         go_wp2_with (go_at_call 111;(with_reducible refine HB.out.mono ?_);rintro e w5 ⟨ba,bc,rfl,aL,h5,ca⟩
                      have B:=HR.out w5 (d.out.fr.trans0 h5);obtain ⟨y0,y1,y2,y3⟩:=cells4 B;have yf:∀ j,w5.frozen? ⟨rb,j,none⟩=false:=fun j=>by simp [World.frozen?,B]
                      have lr:=zaa B;obtain ⟨Zw,hZ,Q,a5,I⟩:=zcx (w:=w) B (.int .i64 BD.rev) (.int .i64 BD.mark) (.slice a1 D.kvs.length k1) (.slice ba BD.events.length bc);have HZ:=H_ hZ;have aS:=H_ Q;have a9:=H_ (a5 ((ah.out.trans0 d.out.fr).trans0 h5) (by omega));have cA:=H_ I;have dA:Hid (0<BD.events.length->∀ b,(Value.slice ba BD.events.length bc).ownBlock=some b->b=rb->False):=H_ (fun h0 b c hbr=>aL.not4 (a0:=.int .i64 0) (a1:=.int .i64 0) (a2:=.slice none 0 0) (a3:=.slice none 0 0) (t:=30) h0 c (by rw [hbr];exact B));have dT:=H_ aL;have H5:=H_ h5;have dW:=H_ ca;clear hZ Q a5 I B aL h5 ca)
         rw [HZ.out];refine bodyPost_ret (zcy rfl _ _ rb 30 _ (0,0) _ rfl aS.out Tryz.underlying30 rfl (by kernel_rfl)) rfl ?_;have ct:Fr (fun j=>j=rb) wr Zw:=((H5.out.mono fun _ _ h=>h.elim)).trans cA.out fun _ _ h=>h;refine ApplyX.of b4.out ((eX.out b4.out).trans eL.out) rfl ?_ ?_ (d.out.ans.fr ct fun b c hbr=>?_) (by rw [ey.out b4.out];exact a4.out) a9.out
         · rw [ex.out b4.out]
           refine ⟨a1,k1,ba,bc,by rw [bP.out];rfl,⟨by rw [bP.out];exact (cy.out _ a9.out).kvs,dT.out.frp cA.out fun h0 b c hbr=>dA.out h0 b c hbr⟩,fun _ h0 h=>.inl ⟨by rw [bP.out] at h0;exact h0,zhp.trans h⟩,fun b h0 c=>(dW.out b h0 c).imp id fun h=>by have:=(ah.out.trans0 d.out.fr).size;omega⟩
         · refine (d.out.evs.toR zac).frp ct fun _ b c hbr=>?_
           have cr:b=rb:=hbr;have h2:=d.out.ne b c;omega
         have cr:b=rb:=hbr
         have h2:=d.out.na b c;omega
       | succ g =>
         have cN:(i:Int)<(ops.length:Int):=(by omega);obtain ⟨x,hx⟩:∃ x,ops[i]?=some x:=⟨_,List.getElem?_eq_getElem (by omega)⟩;obtain ⟨go,oo,rfl⟩:=dV.out (by omega);have eh:=ziz D ops hx;have ej:=dy.out i x hx;obtain ⟨x0,x1,x2,x3,x4,x5,x6,x7,x8,x9⟩:=(HV.out.fr0 (ah.out.trans0 d.out.fr)).cells10 zaf i hx rfl;have lo:=World.block_lt_of_cell? _ _ x0;have HX:=H_ hx;have cY:=H_ eh;have J:=H_ ej;clear eh ej hx;generalize runD D (ops.take i)=r at *;obtain ⟨p1,⟨n,m,p,q,s,u,v⟩,p2,p3⟩:=x;dsimp only at x0 x1 x2 x3 x4 x5 x6 x7 x8 x9
         have eG:Fr No wr ((wr.alloc (Obj.cells #[.int .i64 p1,.string n,.string m,.int .i64 p,.int .i64 q,.bool s,.bool u,.bool v,.string p2,.int .i64 p3] 94)).alloc (Obj.cells #[.int .i64 p1,.slice none 0 0,.int .i64 0,.bool false] 97)):=((Fr.refl No wr).alloc _).alloc _;have ek:((wr.alloc (Obj.cells #[.int .i64 p1,.string n,.string m,.int .i64 p,.int .i64 q,.bool s,.bool u,.bool v,.string p2,.int .i64 p3] 94)).alloc (Obj.cells #[.int .i64 p1,.slice none 0 0,.int .i64 0,.bool false] 97)).heap[wr.heap.size]?=some (Obj.cells #[.int .i64 p1,.string n,.string m,.int .i64 p,.int .i64 q,.bool s,.bool u,.bool v,.string p2,.int .i64 p3] 94 (0,0)):=zaj (zad wr _ _ rfl) _
         have eD:((wr.alloc (Obj.cells #[.int .i64 p1,.string n,.string m,.int .i64 p,.int .i64 q,.bool s,.bool u,.bool v,.string p2,.int .i64 p3] 94)).alloc (Obj.cells #[.int .i64 p1,.slice none 0 0,.int .i64 0,.bool false] 97)).heap[wr.heap.size+1]?=some (Obj.cells #[.int .i64 p1,.slice none 0 0,.int .i64 0,.bool false] 97 (0,0)):=zad _ _ _ (by simp);have aH:=H_ eG;have dx:=H_ ek;have al:=H_ eD;clear eG ek eD;go_upto_region 17 with fail;generalize (wr.alloc (Obj.cells #[.int .i64 p1,.string n,.string m,.int .i64 p,.int .i64 q,.bool s,.bool u,.bool v,.string p2,.int .i64 p3] 94)).alloc (Obj.cells #[.int .i64 p1,.slice none 0 0,.int .i64 0,.bool false] 97)=WA at *;generalize gR:wr.heap.size=ob at *;generalize gY:ob+1=V at *;clear x0 x1 x2 x3 x4 x5 x6 x7 x8 x9 lo
         have au:=H_ (d.out.fr0 aH.out);obtain ⟨d0,d1,d2,d3⟩:=HS.out WA au.out.fr;have ld:=World.block_lt_of_cell? _ _ d0;obtain ⟨o0,o1,o2,o3,o4,o5,o6,o7,o8,o9⟩:=cells10 dx.out;have en:=zaa dx.out;have eV:=zaa al.out;have eH:=J.out.one;by_cases hk3:p1=3
         · subst hk3
           have dj:0<=q:=by
            have h1:=eH;unfold oneE at h1;rw [if_pos rfl] at h1;exact (zok h1).2
           by_cases hg3:p=0
           · skip
             subst hg3;have bX:getD D r.now ⟨3,⟨n,m,0,q,s,u,v⟩,p2,p3⟩=r.now:=if_neg (by simp)
             have hq:runD D (ops.take (i+1))=⟨r.now,r.A++[⟨3,outA ⟨n,m,0,q,s,u,v⟩ r.now,(allA ⟨n,m,0,q,s,u,v⟩ r.now).length,moreA ⟨n,m,0,q,s,u,v⟩ r.now⟩],r.E⟩:=by
              rw [cY.out];unfold stepD;rw [if_neg (show ¬ (3:Int)=1 by decide),if_pos rfl,bX]
             have HQ:=H_ hq;clear hq bX;have G:=zds WA _ r.now au.out.nw (by have:=J.out.len;omega) ⟨n,m,0,q,s,u,v⟩ dj;unfold rgV at G;dsimp only at G;have aM:=H_ G;clear G
             go_upto_region 37 with (first
              | (go_at_call 107;(with_reducible refine aM.out.mono ?_);rintro e w6 ⟨v6,rfl,aw,az,h6⟩
                 have cv:Fr No WA w6:=h6;have O:=cv.heap al.out id;obtain ⟨y0,y1,y2,y3⟩:=cells4 O;have yf:∀ j,w6.frozen? ⟨V,j,none⟩=false:=fun j=>by simp [World.frozen?,O]
                 have la:=zaa O;obtain ⟨va,P,rfl,_,_,_⟩:=aw.shape;obtain ⟨Zw,hZ,Q,I⟩:=zrs O (.slice va (outA ⟨n,m,0,q,s,u,v⟩ r.now).length P) (.int .i64 (allA ⟨n,m,0,q,s,u,v⟩ r.now).length) (.bool (moreA ⟨n,m,0,q,s,u,v⟩ r.now));have HZ:=H_ hZ;have L:=H_ Q;have aC:Fr No wr Zw:=(aH.out.trans0 cv).trans (I.mono fun _ _ h=>h) (fun j hj h=>by have h':j=V:=h;omega);have F:=H_ (d.out.fr0 aC);have be:SlF Zw 99 6 kvC _ _:=aw.fr I fun b c h=>by have h':b=V:=h;have:=az b c;have:=zaa al.out;have:=(Fr.refl No WA).size;omega
                 have aA:=H_ be
                 have ay:=H_ (fun b (c:(Value.slice va (outA ⟨n,m,0,q,s,u,v⟩ r.now).length P).ownBlock=some b)=>(show u11.ownBlock≠some b/\u12.ownBlock≠some b/\W2.heap.size<=b from by
                  have h1:=az b c;have h2:=aH.out.size;have h3:=(Fr.refl No WA).size;have h4:=d.out.fr.size;exact ⟨fun e=>by have:=d.out.ans.lt b (.inl e);omega,fun e=>by have:=d.out.evs.lt b e;omega,by omega⟩))
                 clear hZ Q I aw az h6 O aC be)
              | fail)
             rw [HZ.out];have aa:=H_ (zar Zw (ansC (⟨3,outA ⟨n,m,0,q,s,u,v⟩ r.now,(allA ⟨n,m,0,q,s,u,v⟩ r.now).length,moreA ⟨n,m,0,q,s,u,v⟩ r.now⟩,Value.slice va (outA ⟨n,m,0,q,s,u,v⟩ r.now).length P)) 97 (0,0));obtain ⟨t0,t1,t2,t3⟩:=cells4 L.out;have lt:=zaa L.out
             have d5:Z.length<=1000000:=by
              have:=J.out.ans;have h2:=congrArg List.length a4.out;rw [List.length_map] at h2;omega
             go_wp2_with (at_builtin;(refine zbu rfl _ _ 64 rfl 97 i1 _ 4 48 Tryz.underlying64 cc ci cB cp rfl (by decide) _ Z rfl (F.out.ans.sl.alloc _) Zw.heap.size 1 (⟨3,outA ⟨n,m,0,q,s,u,v⟩ r.now,(allA ⟨n,m,0,q,s,u,v⟩ r.now).length,moreA ⟨n,m,0,q,s,u,v⟩ r.now⟩,Value.slice va (outA ⟨n,m,0,q,s,u,v⟩ r.now).length P) rfl aa.out rfl (zfx _ rfl) (by unfold maxLen;omega) (by omega) ?_));intro gg og bH wT a6 ad X bI;have aP:=H_ a6;have a8:=H_ ad;have aQ:=H_ X;clear a6 ad X t0 t1 t2 t3 lt;go_wp2;go_roundg g
             case rel =>
              have am:ApS W2 _ u10 _ u12 (Z++[(⟨3,outA ⟨n,m,0,q,s,u,v⟩ r.now,(allA ⟨n,m,0,q,s,u,v⟩ r.now).length,moreA ⟨n,m,0,q,s,u,v⟩ r.now⟩,Value.slice va (outA ⟨n,m,0,q,s,u,v⟩ r.now).length P)]) _ _:=(F.out.fr0 ((Fr.refl No Zw).alloc _)).answer a8.out aP.out (aA.out.alloc _) ay.out (fun b c=>by
               have C:gg=b:=(by simpa [Value.ownBlock] using c);rcases aQ.out with h | h
               · exact .inl (C▸h)
               right;rw [<-C,h];exact Nat.le_of_eq (by simp))
              refine ⟨i+1,_,_,_,Z++[(⟨3,outA ⟨n,m,0,q,s,u,v⟩ r.now,(allA ⟨n,m,0,q,s,u,v⟩ r.now).length,moreA ⟨n,m,0,q,s,u,v⟩ r.now⟩,Value.slice va (outA ⟨n,m,0,q,s,u,v⟩ r.now).length P)],rfl,rfl,rfl,by go_num,by omega,H_ ?_,H_ ?_⟩
              · rw [HQ.out];exact am
              rw [HQ.out,List.map_append,a4.out];rfl
             case measure=>omega
           skip
           have gt:(p==0)=false:=beq_eq_false_iff_ne.2 hg3;have bX:getD D r.now ⟨3,⟨n,m,p,q,s,u,v⟩,p2,p3⟩=(D.at p):=if_pos hg3
           have hq:runD D (ops.take (i+1))=⟨r.now,r.A++[⟨3,outA ⟨n,m,p,q,s,u,v⟩ (D.at p),(allA ⟨n,m,p,q,s,u,v⟩ (D.at p)).length,moreA ⟨n,m,p,q,s,u,v⟩ (D.at p)⟩],r.E⟩:=by
            rw [cY.out];unfold stepD;rw [if_neg (show ¬ (3:Int)=1 by decide),if_pos rfl,bX]
           have HQ:=H_ hq;clear hq bX;have dm:=eu.out WA (ah.out.trans0 au.out.fr) p;have eJ:=H_ dm;clear dm;go_upto_region 29 with (go_at_call 80;(with_reducible refine eJ.out.mono ?_);rintro e w5 ⟨v5,rfl,aL,h5,_⟩);have H5:=H_ h5;have G:=zds w5 v5 (D.at p) aL (by have:=fw.out p;omega) ⟨n,m,p,q,s,u,v⟩ dj;unfold rgV at G;dsimp only at G;have aM:=H_ G;clear G aL h5;have fF:w5.cell? ⟨ob,0,none⟩=some (.int .i64 3):=H5.out.cell0 o0;have gW:w5.cell? ⟨ob,1,none⟩=some (.string n):=H5.out.cell0 o1;have he:w5.cell? ⟨ob,2,none⟩=some (.string m):=H5.out.cell0 o2;have gJ:w5.cell? ⟨ob,3,none⟩=some (.int .i64 p):=H5.out.cell0 o3;have gT:w5.cell? ⟨ob,4,none⟩=some (.int .i64 q):=H5.out.cell0 o4
           have gD:w5.cell? ⟨ob,5,none⟩=some (.bool s):=H5.out.cell0 o5;have gV:w5.cell? ⟨ob,6,none⟩=some (.bool u):=H5.out.cell0 o6;have gB:w5.cell? ⟨ob,7,none⟩=some (.bool v):=H5.out.cell0 o7;have gK:w5.cell? ⟨ob,8,none⟩=some (.string p2):=H5.out.cell0 o8;have gU:w5.cell? ⟨ob,9,none⟩=some (.int .i64 p3):=H5.out.cell0 o9;have gp:=World.block_lt_of_cell? _ _ fF;have gs:=zaa (H5.out.heap al.out id)
           go_upto_region 37 with (first
            | (go_at_call 107;(with_reducible refine aM.out.mono ?_);rintro e w6 ⟨v6,rfl,aw,az,h6⟩
               have cv:Fr No WA w6:=H5.out.trans0 h6;have O:=cv.heap al.out id;obtain ⟨y0,y1,y2,y3⟩:=cells4 O;have yf:∀ j,w6.frozen? ⟨V,j,none⟩=false:=fun j=>by simp [World.frozen?,O]
               have la:=zaa O;obtain ⟨va,P,rfl,_,_,_⟩:=aw.shape;obtain ⟨Zw,hZ,Q,I⟩:=zrs O (.slice va (outA ⟨n,m,p,q,s,u,v⟩ (D.at p)).length P) (.int .i64 (allA ⟨n,m,p,q,s,u,v⟩ (D.at p)).length) (.bool (moreA ⟨n,m,p,q,s,u,v⟩ (D.at p)));have HZ:=H_ hZ;have L:=H_ Q;have aC:Fr No wr Zw:=(aH.out.trans0 cv).trans (I.mono fun _ _ h=>h) (fun j hj h=>by have h':j=V:=h;omega);have F:=H_ (d.out.fr0 aC);have be:SlF Zw 99 6 kvC _ _:=aw.fr I fun b c h=>by have h':b=V:=h;have:=az b c;have:=zaa al.out;have:=H5.out.size;omega
               have aA:=H_ be
               have ay:=H_ (fun b (c:(Value.slice va (outA ⟨n,m,p,q,s,u,v⟩ (D.at p)).length P).ownBlock=some b)=>(show u11.ownBlock≠some b/\u12.ownBlock≠some b/\W2.heap.size<=b from by
                have h1:=az b c;have h2:=aH.out.size;have h3:=H5.out.size;have h4:=d.out.fr.size;exact ⟨fun e=>by have:=d.out.ans.lt b (.inl e);omega,fun e=>by have:=d.out.evs.lt b e;omega,by omega⟩))
               clear hZ Q I aw az h6 O aC be)
            | fail)
           rw [HZ.out];have aa:=H_ (zar Zw (ansC (⟨3,outA ⟨n,m,p,q,s,u,v⟩ (D.at p),(allA ⟨n,m,p,q,s,u,v⟩ (D.at p)).length,moreA ⟨n,m,p,q,s,u,v⟩ (D.at p)⟩,Value.slice va (outA ⟨n,m,p,q,s,u,v⟩ (D.at p)).length P)) 97 (0,0));obtain ⟨t0,t1,t2,t3⟩:=cells4 L.out;have lt:=zaa L.out
           have d5:Z.length<=1000000:=by
            have:=J.out.ans;have h2:=congrArg List.length a4.out;rw [List.length_map] at h2;omega
           go_wp2_with (at_builtin;(refine zbu rfl _ _ 64 rfl 97 i1 _ 4 48 Tryz.underlying64 cc ci cB cp rfl (by decide) _ Z rfl (F.out.ans.sl.alloc _) Zw.heap.size 1 (⟨3,outA ⟨n,m,p,q,s,u,v⟩ (D.at p),(allA ⟨n,m,p,q,s,u,v⟩ (D.at p)).length,moreA ⟨n,m,p,q,s,u,v⟩ (D.at p)⟩,Value.slice va (outA ⟨n,m,p,q,s,u,v⟩ (D.at p)).length P) rfl aa.out rfl (zfx _ rfl) (by unfold maxLen;omega) (by omega) ?_));intro gg og bH wT a6 ad X bI;have aP:=H_ a6;have a8:=H_ ad;have aQ:=H_ X;clear a6 ad X t0 t1 t2 t3 lt;go_wp2;go_roundg g
           case rel =>
            have am:ApS W2 _ u10 _ u12 (Z++[(⟨3,outA ⟨n,m,p,q,s,u,v⟩ (D.at p),(allA ⟨n,m,p,q,s,u,v⟩ (D.at p)).length,moreA ⟨n,m,p,q,s,u,v⟩ (D.at p)⟩,Value.slice va (outA ⟨n,m,p,q,s,u,v⟩ (D.at p)).length P)]) _ _:=(F.out.fr0 ((Fr.refl No Zw).alloc _)).answer a8.out aP.out (aA.out.alloc _) ay.out (fun b c=>by
             have C:gg=b:=(by simpa [Value.ownBlock] using c);rcases aQ.out with h | h
             · exact .inl (C▸h)
             right;rw [<-C,h];exact Nat.le_of_eq (by simp))
            refine ⟨i+1,_,_,_,Z++[(⟨3,outA ⟨n,m,p,q,s,u,v⟩ (D.at p),(allA ⟨n,m,p,q,s,u,v⟩ (D.at p)).length,moreA ⟨n,m,p,q,s,u,v⟩ (D.at p)⟩,Value.slice va (outA ⟨n,m,p,q,s,u,v⟩ (D.at p)).length P)],rfl,rfl,rfl,by go_num,by omega,H_ ?_,H_ ?_⟩
            · rw [HQ.out];exact am
            rw [HQ.out,List.map_append,a4.out];rfl
           case measure=>omega
         have gu:(p1==3)=false:=beq_eq_false_iff_ne.2 hk3
         by_cases hk1:p1=1
         · subst hk1
           have dr:=J.out.ver;have bK:=znf WA _ r.now au.out.nw (by have:=J.out.len;omega) ⟨1,⟨n,m,p,q,s,u,v⟩,p2,p3⟩ (D.rev+1) dr
           have hq:runD D (ops.take (i+1))=⟨doneL r.now (putD r.now ⟨1,⟨n,m,p,q,s,u,v⟩,p2,p3⟩ (D.rev+1)),r.A++[⟨1,told (putD r.now ⟨1,⟨n,m,p,q,s,u,v⟩,p2,p3⟩ (D.rev+1)),(told (putD r.now ⟨1,⟨n,m,p,q,s,u,v⟩,p2,p3⟩ (D.rev+1))).length,false⟩],r.E++[putD r.now ⟨1,⟨n,m,p,q,s,u,v⟩,p2,p3⟩ (D.rev+1)]⟩:=by
            rw [cY.out];unfold stepD;rw [if_pos rfl]
           have bk:=H_ hq;clear hq dr;generalize putD r.now ⟨1,⟨n,m,p,q,s,u,v⟩,p2,p3⟩ (D.rev+1)=x at *;obtain ⟨xk,⟨e1,e2,e3,e4,e5,e6⟩,⟨q1,q2,q3,q4,q5,q6⟩⟩:=x;unfold opV evV at bK;dsimp only at bK;have es:=H_ bK;clear bK;go_upto_region 32 with (go_at_call 113;(with_reducible refine es.out.mono ?_);rintro e w5 ⟨rfl,h5⟩);have dO:=zad w5 (Obj.cells #[.int .i64 xk,.string e1,.string e2,.int .i64 e3,.int .i64 e4,.int .i64 e5,.int .i64 e6,.string q1,.string q2,.int .i64 q3,.int .i64 q4,.int .i64 q5,.int .i64 q6] 101) _ rfl;have cQ:Fr No WA (w5.alloc (Obj.cells #[.int .i64 xk,.string e1,.string e2,.int .i64 e3,.int .i64 e4,.int .i64 e5,.int .i64 e6,.string q1,.string q2,.int .i64 q3,.int .i64 q4,.int .i64 q5,.int .i64 q6] 101)):=h5.alloc _
           generalize w5.alloc (Obj.cells #[.int .i64 xk,.string e1,.string e2,.int .i64 e3,.int .i64 e4,.int .i64 e5,.int .i64 e6,.string q1,.string q2,.int .i64 q3,.int .i64 q4,.int .i64 q5,.int .i64 q6] 101)=W6 at *;generalize ei:w5.heap.size=xb at *;have bL:=H_ dO;have H6:=H_ cQ;have bh:=H_ (cQ.heap al.out id);have sA:=aH.out.size;have s6:=cQ.size;have h9:xb<W6.heap.size:=zaa dO;have gA:WA.heap.size<=xb:=(by rw [<-ei];exact h5.size);have aR:∀ b,u12.ownBlock=some b->b<ob:=fun b c=>by have:=d.out.evs.lt b c;omega
           have eF:∀ b,u11.ownBlock=some b->b<ob:=fun b c=>by have:=d.out.ans.lt b (.inl c);omega
           have dM:=H_ aR;have fB:=H_ eF;have ge:=au.out.fr.size;have fY:W2.heap.size<=ob:=(by have:=d.out.fr.size;omega);clear dO cQ h5 o0 o1 o2 o3 o4 o5 o6 o7 o8 o9 d0 d1 d2 d3 ld en eV aR eF;by_cases hv5:0<q5
           · have et:decide (q5 > 0)=true:=decide_eq_true hv5
             have aD:told ⟨xk,⟨e1,e2,e3,e4,e5,e6⟩,⟨q1,q2,q3,q4,q5,q6⟩⟩ = [⟨q1,q2,q3,q4,q5,q6⟩]:=if_pos hv5;have hq:=bk.out;rw [aD] at hq;have HQ:=H_ hq;clear hq aD bk;obtain ⟨c0,c1,c2,c3,c4,c5,c6,c7,c8,c9,U,T,R⟩:=cells13 bL.out;obtain ⟨y0,y1,y2,y3⟩:=cells4 bh.out;have yf:∀ j,W6.frozen? ⟨V,j,none⟩=false:=fun j=>by simp [World.frozen?,bh.out]
             have e0:=zaa bh.out;have dQ:=zaa bL.out;go_upto_region 35 with fail;obtain ⟨Zw,hZ,Q,I⟩:=zom bh.out (.slice (some ⟨W6.heap.size,0,none⟩) 1 1) (.int .i64 1);have eg:Zw.heap.size=W6.heap.size:=(by rw [<-hZ];simp);have bs:=SlF.one Zw 99 6 (⟨q1,q2,q3,q4,q5,q6⟩:Kv) (f:=kvC) rfl;rw [eg] at bs;have co:=zaj (I.heap bL.out (show ¬ xb=V from by have:=zaa al.out;omega)) (Obj.cells #[.string q1,.string q2,.int .i64 q3,.int .i64 q4,.int .i64 q5,.int .i64 q6] 99);have eQ:SlF (Zw.alloc (Obj.cells #[.string q1,.string q2,.int .i64 q3,.int .i64 q4,.int .i64 q5,.int .i64 q6] 99)) 99 6 kvC (.slice (some ⟨W6.heap.size,0,none⟩) 1 1) [⟨q1,q2,q3,q4,q5,q6⟩]:=bs
             have aC:Fr No wr (Zw.alloc (Obj.cells #[.string q1,.string q2,.int .i64 q3,.int .i64 q4,.int .i64 q5,.int .i64 q6] 99)):=((aH.out.trans0 H6.out).trans I (fun j hj h=>by have h':j=V:=h;omega)).alloc _;have eS:=zaj Q (Obj.cells #[.string q1,.string q2,.int .i64 q3,.int .i64 q4,.int .i64 q5,.int .i64 q6] 99);rw [hZ];have dp:=H_ co;have b0:=H_ eS;have bd:=H_ eQ;have fO:=H_ aC;clear hZ Q eS I eg bs co eQ aC c0 c1 c2 c3 c4 c5 c6 c7 c8 c9 U T R y0 y1 y2 y3 yf e0 dQ;generalize Zw.alloc (Obj.cells #[.string q1,.string q2,.int .i64 q3,.int .i64 q4,.int .i64 q5,.int .i64 q6] 99)=W7 at *
             have aF:Hid (W7.heap[xb]?=some (Obj.cells #[.int .i64 xk,.string e1,.string e2,.int .i64 e3,.int .i64 e4,.int .i64 e5,.int .i64 e6,.string q1,.string q2,.int .i64 q3,.int .i64 q4,.int .i64 q5,.int .i64 q6] 101 (0,0))):=dp;have S:Hid (W7.heap[V]?=some (.cells #[.int .i64 1,.slice (some ⟨W6.heap.size,0,none⟩) 1 1,.int .i64 1,.bool false] 97 (0,0))):=b0;have Y:=bd;have ak:=H_ (d.out.fr0 fO.out);have a7:Hid (¬ u12.ownBlock=some V):=H_ (fun e=>by have:=dM.out V e;omega)
             have aK:Hid (∀ b,(Value.slice (some ⟨W6.heap.size,0,none⟩) 1 1).ownBlock=some b->¬ u12.ownBlock=some b):=H_ (fun b c e=>by
              have C:W6.heap.size=b:=(by simpa [Value.ownBlock] using c);have:=dM.out b e;omega)
             have bM:Hid (∀ b,(Value.slice (some ⟨W6.heap.size,0,none⟩) 1 1).ownBlock=some b->u11.ownBlock≠some b):=H_ (fun b c e=>by
              have C:W6.heap.size=b:=(by simpa [Value.ownBlock] using c);have:=fB.out b e;omega)
             have bN:Hid (∀ b,(Value.slice (some ⟨W6.heap.size,0,none⟩) 1 1).ownBlock=some b->W2.heap.size<=b):=H_ (fun b c=>by
              have C:W6.heap.size=b:=(by simpa [Value.ownBlock] using c);omega)
             clear dp b0 bd;have M:=zcn W7 _ _ ak.out.nw (by have:=J.out.len;omega) ⟨xk,⟨e1,e2,e3,e4,e5,e6⟩,⟨q1,q2,q3,q4,q5,q6⟩⟩;rw [zhg J.out.ks] at M;unfold evV at M;dsimp only at M;have cn:=H_ M;clear M;obtain ⟨c0,c1,c2,c3,c4,c5,c6,c7,c8,c9,U,T,R⟩:=cells13 aF.out;have cu:=zaa aF.out;go_upto_region 36 with (go_at_call 73;(with_reducible refine cn.out.mono ?_);rintro e w8 ⟨v8,rfl,b6,bf,h8⟩);have cw:=H_ b6;have cj:=H_ bf;have H8:=H_ h8;clear c0 c1 c2 c3 c4 c5 c6 c7 c8 c9 U T R cu b6 bf h8;have bg:=H_ (H8.out.heap aF.out id);obtain ⟨c0,c1,c2,c3,c4,c5,c6,c7,c8,c9,U,T,R⟩:=cells13 bg.out;have cs:=zaa bg.out;have aj:=H_ (ak.out.done H8.out cw.out cj.out)
             have aB:=H_ (zar w8 (evC ⟨xk,⟨e1,e2,e3,e4,e5,e6⟩,⟨q1,q2,q3,q4,q5,q6⟩⟩) 101 (0,0));have ch:=J.out.ev;go_wp2_with (at_builtin;(refine zbu rfl _ _ 28 rfl 101 i0 _ 13 136 Tryz.underlying28 dK dH dE dw rfl (by decide) _ _ rfl (aj.out.evs.alloc _) w8.heap.size 1 ⟨xk,⟨e1,e2,e3,e4,e5,e6⟩,⟨q1,q2,q3,q4,q5,q6⟩⟩ rfl aB.out rfl (zhf _) (by unfold maxLen;omega) (by omega) ?_));intro g9 o9 N w9 aZ b7 b8 ds;have cm:=H_ aZ;have aY:=H_ b7;have b3:=H_ b8;clear c0 c1 c2 c3 c4 c5 c6 c7 c8 c9 U T R cs aZ b7 b8 ch
             have aE:Hid (∀ b,(Value.slice (some ⟨g9,o9,none⟩) (r.E.length+1) N).ownBlock=some b->u12.ownBlock=some b\/w8.heap.size+1<=b):=H_ (fun b c=>by
              have C:g9=b:=(by simpa [Value.ownBlock] using c);rcases b3.out with h | h
              · exact .inl (C▸h)
              right;rw [<-C,h];exact Nat.le_of_eq (by simp))
             have F:=H_ ((aj.out.fr0 ((Fr.refl No w8).alloc _)).event aY.out cm.out (fun b c=>(aE.out b c).imp id fun h=>by simpa using h));have H:Fr (fun b=>u12.ownBlock=some b) W7 w9:=(((H8.out.trans0 ((Fr.refl No w8).alloc _)).mono fun _ _ h=>h.elim)).trans aY.out fun _ _ h=>h;have dt:=H_ H;have L:=H_ (H.heap S.out a7.out);have aA:=H_ (Y.out.fr H fun b c e=>(aK.out b c) e);have dk:=H8.out.size
             have ay:Hid (∀ b,(Value.slice (some ⟨W6.heap.size,0,none⟩) 1 1).ownBlock=some b->u11.ownBlock≠some b/\(Value.slice (some ⟨g9,o9,none⟩) (r.E.length+1) N).ownBlock≠some b/\W2.heap.size<=b):=H_ (fun b c=>⟨bM.out b c,fun e=>by
              rcases aE.out b e with h | h
              · exact aK.out b c h
              have:=Y.out.lt b c;omega,bN.out b c⟩)
             have bw:Hid ((Value.slice (some ⟨g9,o9,none⟩) (r.E.length+1) N).ownBlock≠some V):=H_ (fun e=>by
              rcases aE.out V e with h | h
              · exact a7.out h
              have:=zaa S.out;omega)
             clear H;have aa:=H_ (zar w9 (ansC (⟨1,[⟨q1,q2,q3,q4,q5,q6⟩],1,false⟩,Value.slice (some ⟨W6.heap.size,0,none⟩) 1 1)) 97 (0,0));obtain ⟨t0,t1,t2,t3⟩:=cells4 L.out;have lt:=zaa L.out
             have d5:Z.length<=1000000:=by
              have:=J.out.ans;have h2:=congrArg List.length a4.out;rw [List.length_map] at h2;omega
             go_wp2_with (at_builtin;(refine zbu rfl _ _ 64 rfl 97 i1 _ 4 48 Tryz.underlying64 cc ci cB cp rfl (by decide) _ Z rfl (F.out.ans.sl.alloc _) w9.heap.size 1 (⟨1,[⟨q1,q2,q3,q4,q5,q6⟩],1,false⟩,Value.slice (some ⟨W6.heap.size,0,none⟩) 1 1) rfl aa.out rfl (zfx _ rfl) (by unfold maxLen;omega) (by omega) ?_));intro gg og bH wT a6 ad X bI;have aP:=H_ a6;have a8:=H_ ad;have aQ:=H_ X;clear a6 ad X t0 t1 t2 t3 lt;go_wp2;go_roundg g
             case rel =>
              have am:ApS W2 _ v8 _ _ (Z++[(⟨1,[⟨q1,q2,q3,q4,q5,q6⟩],1,false⟩,Value.slice (some ⟨W6.heap.size,0,none⟩) 1 1)]) _ _:=(F.out.fr0 ((Fr.refl No w9).alloc _)).answer a8.out aP.out (aA.out.alloc _) ay.out (fun b c=>by
               have C:gg=b:=(by simpa [Value.ownBlock] using c);rcases aQ.out with h | h
               · exact .inl (C▸h)
               right;rw [<-C,h];exact Nat.le_of_eq (by simp))
              refine ⟨i+1,_,_,_,Z++[(⟨1,[⟨q1,q2,q3,q4,q5,q6⟩],1,false⟩,Value.slice (some ⟨W6.heap.size,0,none⟩) 1 1)],rfl,rfl,rfl,by go_num,by omega,H_ ?_,H_ ?_⟩
              · rw [HQ.out];exact am
              rw [HQ.out,List.map_append,a4.out];rfl
             case measure=>omega
           have et:decide (q5 > 0)=false:=decide_eq_false hv5
           have aD:told ⟨xk,⟨e1,e2,e3,e4,e5,e6⟩,⟨q1,q2,q3,q4,q5,q6⟩⟩ = []:=if_neg hv5;have hq:=bk.out;rw [aD] at hq;have HQ:=H_ hq;clear hq aD bk;obtain ⟨c0,c1,c2,c3,c4,c5,c6,c7,c8,c9,U,T,R⟩:=cells13 bL.out;have dQ:=zaa bL.out;go_upto_region 35 with fail;clear c0 c1 c2 c3 c4 c5 c6 c7 c8 c9 U T R dQ;obtain ⟨W7,fK⟩:∃ W7,W7=W6:=⟨_,rfl⟩;subst fK;have aF:=bL;have S:=bh;have Y:Hid (SlF W7 99 6 kvC (.slice none 0 0) []):=H_ (SlF.nil _ _ _ _);have ak:=H_ (d.out.fr0 (aH.out.trans0 H6.out));have a7:Hid (¬ u12.ownBlock=some V):=H_ (fun e=>by have:=dM.out V e;omega);have aK:Hid (∀ b,(Value.slice none 0 0).ownBlock=some b->¬ u12.ownBlock=some b):=H_ (by simp [Value.ownBlock])
           have bM:Hid (∀ b,(Value.slice none 0 0).ownBlock=some b->u11.ownBlock≠some b):=H_ (by simp [Value.ownBlock]);have bN:Hid (∀ b,(Value.slice none 0 0).ownBlock=some b->W2.heap.size<=b):=H_ (by simp [Value.ownBlock]);have M:=zcn W7 _ _ ak.out.nw (by have:=J.out.len;omega) ⟨xk,⟨e1,e2,e3,e4,e5,e6⟩,⟨q1,q2,q3,q4,q5,q6⟩⟩;rw [zhg J.out.ks] at M;unfold evV at M;dsimp only at M;have cn:=H_ M;clear M;obtain ⟨c0,c1,c2,c3,c4,c5,c6,c7,c8,c9,U,T,R⟩:=cells13 aF.out;have cu:=zaa aF.out;go_upto_region 36 with (go_at_call 73;(with_reducible refine cn.out.mono ?_);rintro e w8 ⟨v8,rfl,b6,bf,h8⟩);have cw:=H_ b6;have cj:=H_ bf;have H8:=H_ h8;clear c0 c1 c2 c3 c4 c5 c6 c7 c8 c9 U T R cu b6 bf h8;have bg:=H_ (H8.out.heap aF.out id)
           obtain ⟨c0,c1,c2,c3,c4,c5,c6,c7,c8,c9,U,T,R⟩:=cells13 bg.out;have cs:=zaa bg.out;have aj:=H_ (ak.out.done H8.out cw.out cj.out);have aB:=H_ (zar w8 (evC ⟨xk,⟨e1,e2,e3,e4,e5,e6⟩,⟨q1,q2,q3,q4,q5,q6⟩⟩) 101 (0,0));have ch:=J.out.ev;go_wp2_with (at_builtin;(refine zbu rfl _ _ 28 rfl 101 i0 _ 13 136 Tryz.underlying28 dK dH dE dw rfl (by decide) _ _ rfl (aj.out.evs.alloc _) w8.heap.size 1 ⟨xk,⟨e1,e2,e3,e4,e5,e6⟩,⟨q1,q2,q3,q4,q5,q6⟩⟩ rfl aB.out rfl (zhf _) (by unfold maxLen;omega) (by omega) ?_));intro g9 o9 N w9 aZ b7 b8 ds;have cm:=H_ aZ;have aY:=H_ b7;have b3:=H_ b8;clear c0 c1 c2 c3 c4 c5 c6 c7 c8 c9 U T R cs aZ b7 b8 ch
           have aE:Hid (∀ b,(Value.slice (some ⟨g9,o9,none⟩) (r.E.length+1) N).ownBlock=some b->u12.ownBlock=some b\/w8.heap.size+1<=b):=H_ (fun b c=>by
            have C:g9=b:=(by simpa [Value.ownBlock] using c);rcases b3.out with h | h
            · exact .inl (C▸h)
            right;rw [<-C,h];exact Nat.le_of_eq (by simp))
           have F:=H_ ((aj.out.fr0 ((Fr.refl No w8).alloc _)).event aY.out cm.out (fun b c=>(aE.out b c).imp id fun h=>by simpa using h));have H:Fr (fun b=>u12.ownBlock=some b) W7 w9:=(((H8.out.trans0 ((Fr.refl No w8).alloc _)).mono fun _ _ h=>h.elim)).trans aY.out fun _ _ h=>h;have dt:=H_ H;have L:=H_ (H.heap S.out a7.out);have aA:=H_ (Y.out.fr H fun b c e=>(aK.out b c) e);have dk:=H8.out.size
           have ay:Hid (∀ b,(Value.slice none 0 0).ownBlock=some b->u11.ownBlock≠some b/\(Value.slice (some ⟨g9,o9,none⟩) (r.E.length+1) N).ownBlock≠some b/\W2.heap.size<=b):=H_ (fun b c=>⟨bM.out b c,fun e=>by
            rcases aE.out b e with h | h
            · exact aK.out b c h
            have:=Y.out.lt b c;omega,bN.out b c⟩)
           have bw:Hid ((Value.slice (some ⟨g9,o9,none⟩) (r.E.length+1) N).ownBlock≠some V):=H_ (fun e=>by
            rcases aE.out V e with h | h
            · exact a7.out h
            have:=zaa S.out;omega)
           clear H;have aa:=H_ (zar w9 (ansC (⟨1,[],0,false⟩,Value.slice none 0 0)) 97 (0,0));obtain ⟨t0,t1,t2,t3⟩:=cells4 L.out;have lt:=zaa L.out
           have d5:Z.length<=1000000:=by
            have:=J.out.ans;have h2:=congrArg List.length a4.out;rw [List.length_map] at h2;omega
           go_wp2_with (at_builtin;(refine zbu rfl _ _ 64 rfl 97 i1 _ 4 48 Tryz.underlying64 cc ci cB cp rfl (by decide) _ Z rfl (F.out.ans.sl.alloc _) w9.heap.size 1 (⟨1,[],0,false⟩,Value.slice none 0 0) rfl aa.out rfl (zfx _ rfl) (by unfold maxLen;omega) (by omega) ?_));intro gg og bH wT a6 ad X bI;have aP:=H_ a6;have a8:=H_ ad;have aQ:=H_ X;clear a6 ad X t0 t1 t2 t3 lt;go_wp2;go_roundg g
           case rel =>
            have am:ApS W2 _ v8 _ _ (Z++[(⟨1,[],0,false⟩,Value.slice none 0 0)]) _ _:=(F.out.fr0 ((Fr.refl No w9).alloc _)).answer a8.out aP.out (aA.out.alloc _) ay.out (fun b c=>by
             have C:gg=b:=(by simpa [Value.ownBlock] using c);rcases aQ.out with h | h
             · exact .inl (C▸h)
             right;rw [<-C,h];exact Nat.le_of_eq (by simp))
            refine ⟨i+1,_,_,_,Z++[(⟨1,[],0,false⟩,Value.slice none 0 0)],rfl,rfl,rfl,by go_num,by omega,H_ ?_,H_ ?_⟩
            · rw [HQ.out];exact am
            rw [HQ.out,List.map_append,a4.out];rfl
           case measure=>omega
         have gd:(p1==1)=false:=beq_eq_false_iff_ne.2 hk1
         have G:=zds WA _ r.now au.out.nw (by have:=J.out.len;omega) ⟨n,m,0,0,false,false,false⟩ (Int.le_refl 0);have am:(allA ⟨n,m,0,0,false,false,false⟩ r.now).length=(outA ⟨n,m,0,0,false,false,false⟩ r.now).length:=zyh ⟨p1,⟨n,m,p,q,s,u,v⟩,p2,p3⟩ r.now;have fq:moreA ⟨n,m,0,0,false,false,false⟩ r.now=moreA ⟨n,m,0,0,false,false,false⟩ r.now:=rfl;rw [am] at G
         have hq:runD D (ops.take (i+1))=⟨(outA ⟨n,m,0,0,false,false,false⟩ r.now).foldl (fun l x=>doneL l (goneE x (D.rev+1))) r.now,r.A++[⟨p1,outA ⟨n,m,0,0,false,false,false⟩ r.now,(outA ⟨n,m,0,0,false,false,false⟩ r.now).length,false⟩],r.E++(outA ⟨n,m,0,0,false,false,false⟩ r.now).map fun x=>goneE x (D.rev+1)⟩:=by
          rw [cY.out];unfold stepD;rw [if_neg hk1,if_neg hk3]
          rfl
         have ha:(outA ⟨n,m,0,0,false,false,false⟩ r.now).length<=1000000:=by
          have h1:=zgz ⟨p1,⟨n,m,p,q,s,u,v⟩,p2,p3⟩ r.now;have h2:outA ⟨n,m,0,0,false,false,false⟩ r.now=r.now.filter fun y=>inB y.key n m:=h1;rw [h2];exact Nat.le_trans (List.length_filter_le _ _) J.out.len
         unfold rgV at G;dsimp only at G;have aM:=H_ G;have bk:=H_ hq;clear G hq am fq;generalize outA ⟨n,m,0,0,false,false,false⟩ r.now=K at *
         go_upto_region 20 with (first
          | (go_at_call 107;(with_reducible refine aM.out.mono ?_);rintro e w6 ⟨v6,rfl,aw,az,h6⟩
             have O:=h6.heap al.out id;obtain ⟨y0,y1,y2,y3⟩:=cells4 O;have yf:∀ j,w6.frozen? ⟨V,j,none⟩=false:=fun j=>by simp [World.frozen?,O]
             have la:=zaa O;obtain ⟨va,P,rfl,gi,gq,da⟩:=aw.shape;obtain ⟨Zw,hZ,Q,I⟩:=zom O (.slice va K.length P) (.int .i64 K.length);have HZ:=H_ hZ;have dC:=H_ Q;have aC:Fr No wr Zw:=(aH.out.trans0 h6).trans (I.mono fun _ _ h=>h) (fun j hj h=>by have h':j=V:=h;omega);have cg:=H_ (d.out.fr0 aC);have be:SlF Zw 99 6 kvC _ _:=aw.fr I fun b c h=>by have h':b=V:=h;have:=az b c;have:=zaa al.out;omega
             have dL:=H_ be;have ff:=H_ da;have er:∀ b,(Value.slice va K.length P).ownBlock=some b->ob+2<=b:=fun b c=>by have:=az b c;have:=zaa al.out;omega
             have d8:=H_ er;clear hZ Q I aw az h6 O aC be da er)
          | fail)
         rw [HZ.out]
         have bM:Hid (∀ b,(Value.slice va K.length P).ownBlock=some b->u11.ownBlock≠some b):=H_ (fun b c e=>by
          have h1:=d8.out b c;have h2:=d.out.ans.lt b (.inl e);omega)
         have bN:Hid (∀ b,(Value.slice va K.length P).ownBlock=some b->W2.heap.size<=b):=H_ (fun b c=>by
          have h1:=d8.out b c;have h2:=d.out.fr.size;omega)
         have bo:Hid (¬ u12.ownBlock=some V):=H_ (fun e=>by have:=d.out.evs.lt V e;omega)
         have cq:Hid (∀ b,(Value.slice va K.length P).ownBlock=some b->¬ u12.ownBlock=some b):=H_ (fun b c e=>by
          have h1:=d8.out b c;have h2:=d.out.evs.lt b e;omega)
         have dz:Hid (KSorted r.now/\r.now.length<=1000000/\r.E.length<=1000000):=H_ ⟨J.out.ks,J.out.len,J.out.ev⟩;clear o0 o1 o2 o3 o4 o5 o6 o7 o8 o9 d0 d1 d2 d3 ld en eV y0 y1 y2 y3 yf la d8 d au aH dx al aM HZ dV;obtain ⟨wO,fk⟩:∃ wO,wO=wr:=⟨_,rfl⟩;subst fk
         go_loopg [10,12,18] K.length (fun g s10 s12 s18 wr=>∃ (k:Nat) (nv ev:Value) (NL:List Kv) (EL:List Ev),s10=nv/\s12=ev/\s18=.int .i64 k/\k+g=K.length/\Hid (ApS W2 wr nv u11 ev Z NL EL)/\Hid (wr.heap[V]?=some (.cells #[.int .i64 p1,.slice va K.length P,.int .i64 K.length,.bool false] 97 (0,0)))/\Hid (SlF wr 99 6 kvC (.slice va K.length P) K)/\Hid (¬ ev.ownBlock=some V)/\Hid (∀ b,(Value.slice va K.length P).ownBlock=some b->¬ ev.ownBlock=some b) ∧
          Hid (KSorted NL/\NL.length<=1000000+k/\EL.length<=1000000+k)/\Hid (NL=(K.take k).foldl (fun l x=>doneL l (goneE x (D.rev+1))) r.now)/\Hid (EL=r.E++(K.take k).map fun x=>goneE x (D.rev+1)))
         case atStart=>exact ⟨0,_,_,r.now,r.E,rfl,rfl,rfl,by omega,cg,dC,dL,bo,cq,dz,H_ rfl,H_ (by simp)⟩
         case round =>
          obtain ⟨k,nv,ev,NL,EL,rfl,rfl,rfl,hk,bJ,S,Y,a7,aK,cd,dB,dD⟩:=hrel;have t1:wr.cell? ⟨V,1,none⟩=some (.slice va K.length P):=cellAt S.out 1 rfl;have cV:=zaa S.out
          cases gk with
          | zero =>
            have eE:¬ (k:Int)<(K.length:Int):=(by omega);have fz:k=K.length:=(by omega);subst fz;rw [List.take_length] at dB dD;have HQ:Hid (runD D (ops.take (i+1))=⟨NL,r.A++[⟨p1,K,K.length,false⟩],EL⟩):=H_ (by rw [bk.out,dB.out,dD.out]);have F:=bJ;have L:=S;have aA:=Y;have ay:Hid (∀ b,(Value.slice va K.length P).ownBlock=some b->u11.ownBlock≠some b/\u12.ownBlock≠some b/\W2.heap.size<=b):=H_ (fun b c=>⟨bM.out b c,aK.out b c,bN.out b c⟩);clear bk cg dC dL bo cq dz cd a7 aK t1 cV bJ S Y;have t1:wr.cell? ⟨V,1,none⟩=some (.slice va K.length P):=cellAt L.out 1 rfl;have cV:=zaa L.out;go_upto_region 37 with fail;clear t1 cV;have aa:=H_ (zar wr (ansC (⟨p1,K,K.length,false⟩,Value.slice va K.length P)) 97 (0,0))
            obtain ⟨t0,t1,t2,t3⟩:=cells4 L.out;have lt:=zaa L.out
            have d5:Z.length<=1000000:=by
             have:=J.out.ans;have h2:=congrArg List.length a4.out;rw [List.length_map] at h2;omega
            go_wp2_with (at_builtin;(refine zbu rfl _ _ 64 rfl 97 i1 _ 4 48 Tryz.underlying64 cc ci cB cp rfl (by decide) _ Z rfl (F.out.ans.sl.alloc _) wr.heap.size 1 (⟨p1,K,K.length,false⟩,Value.slice va K.length P) rfl aa.out rfl (zfx _ rfl) (by unfold maxLen;omega) (by omega) ?_));intro gg og bH wT a6 ad X bI;have aP:=H_ a6;have a8:=H_ ad;have aQ:=H_ X;clear a6 ad X t0 t1 t2 t3 lt;go_wp2;go_roundg g
            case rel =>
             have am:ApS W2 _ _ _ _ (Z++[(⟨p1,K,K.length,false⟩,Value.slice va K.length P)]) _ _:=(F.out.fr0 ((Fr.refl No wr).alloc _)).answer a8.out aP.out (aA.out.alloc _) ay.out (fun b c=>by
              have C:gg=b:=(by simpa [Value.ownBlock] using c);rcases aQ.out with h | h
              · exact .inl (C▸h)
              right;rw [<-C,h];exact Nat.le_of_eq (by simp))
             refine ⟨i+1,_,_,_,Z++[(⟨p1,K,K.length,false⟩,Value.slice va K.length P)],rfl,rfl,rfl,by go_num,by omega,H_ ?_,H_ ?_⟩
             · rw [HQ.out];exact am
             rw [HQ.out,List.map_append,a4.out];rfl
            case measure=>omega
          | succ gL =>
            have eE:(k:Int)<(K.length:Int):=(by omega);obtain ⟨z,Q⟩:∃ z,K[k]?=some z:=⟨_,List.getElem?_eq_getElem (by omega)⟩;obtain ⟨gv,ov,rfl⟩:=ff.out (by omega);obtain ⟨f0,f1,f2,f3,f4,f5⟩:=Y.out.cells6 zae k Q rfl;have lf:=World.block_lt_of_cell? _ _ f0;have dd:=(HS.out wr bJ.out.fr).1;have fy:=World.block_lt_of_cell? _ _ dd
            have du:(K.take (k+1)).foldl (fun l x=>doneL l (goneE x (D.rev+1))) r.now=doneL NL (goneE z (D.rev+1)):=by
             rw [List.take_add_one,Q,List.foldl_append,dB.out];rfl
            have dv:r.E++(K.take (k+1)).map (fun x=>goneE x (D.rev+1))=EL++[goneE z (D.rev+1)]:=by
             rw [List.take_add_one,Q,List.map_append,dD.out,List.append_assoc];rfl
            have ef:=H_ du;have ep:=H_ dv;clear du dv Q;obtain ⟨z1,z2,z3,z4,z5,z6⟩:=z;dsimp only at f0 f1 f2 f3 f4 f5;have e8:Hid (NL.length<=2000000):=H_ (by have:=cd.out.2.1;omega);go_upto_region 22 with fail
            go_region
            have co:((wr.alloc (Obj.cells #[.int .i64 2,.string z1,.string ⟨#[]⟩,.int .i64 0,.int .i64 (D.rev+1),.int .i64 0,.int .i64 0,.string z1,.string z2,.int .i64 z3,.int .i64 z4,.int .i64 z5,.int .i64 z6] 101)).drew).heap[wr.heap.size]?=some (Obj.cells #[.int .i64 2,.string z1,.string ⟨#[]⟩,.int .i64 0,.int .i64 (D.rev+1),.int .i64 0,.int .i64 0,.string z1,.string z2,.int .i64 z3,.int .i64 z4,.int .i64 z5,.int .i64 z6] 101 (0,0)):=zad wr (Obj.cells #[.int .i64 2,.string z1,.string ⟨#[]⟩,.int .i64 0,.int .i64 (D.rev+1),.int .i64 0,.int .i64 0,.string z1,.string z2,.int .i64 z3,.int .i64 z4,.int .i64 z5,.int .i64 z6] 101) _ rfl
            have cR:Fr No wr ((wr.alloc (Obj.cells #[.int .i64 2,.string z1,.string ⟨#[]⟩,.int .i64 0,.int .i64 (D.rev+1),.int .i64 0,.int .i64 0,.string z1,.string z2,.int .i64 z3,.int .i64 z4,.int .i64 z5,.int .i64 z6] 101)).drew):=((Fr.refl No wr).alloc _).drew;generalize (wr.alloc (Obj.cells #[.int .i64 2,.string z1,.string ⟨#[]⟩,.int .i64 0,.int .i64 (D.rev+1),.int .i64 0,.int .i64 0,.string z1,.string z2,.int .i64 z3,.int .i64 z4,.int .i64 z5,.int .i64 z6] 101)).drew=W7 at *;generalize ei:wr.heap.size=xb at *;have aF:=H_ co;have ak:=H_ (bJ.out.fr0 cR);have b0:=H_ (cR.heap S.out id);have bd:=H_ (Y.out.fr0 cR);clear co cR f0 f1 f2 f3 f4 f5 lf dd fy t1 cV S Y cg dC dL bo cq dz
            have S:Hid (W7.heap[V]?=some (.cells #[.int .i64 p1,.slice (some ⟨gv,ov,none⟩) K.length P,.int .i64 K.length,.bool false] 97 (0,0))):=b0;have Y:=bd;clear b0 bd;have M:=zcn W7 _ _ ak.out.nw (by have:=e8.out;omega) ⟨2,⟨z1,⟨#[]⟩,0,D.rev+1,0,0⟩,⟨z1,z2,z3,z4,z5,z6⟩⟩;rw [zhg cd.out.1] at M;unfold evV at M;dsimp only at M;have cn:=H_ M;clear M;obtain ⟨c0,c1,c2,c3,c4,c5,c6,c7,c8,c9,U,T,R⟩:=cells13 aF.out;have cu:=zaa aF.out;go_upto_region 24 with (go_at_call 73;(with_reducible refine cn.out.mono ?_);rintro e w8 ⟨v8,rfl,b6,bf,h8⟩);have cw:=H_ b6;have cj:=H_ bf;have H8:=H_ h8;clear c0 c1 c2 c3 c4 c5 c6 c7 c8 c9 U T R cu b6 bf h8;have bg:=H_ (H8.out.heap aF.out id)
            obtain ⟨c0,c1,c2,c3,c4,c5,c6,c7,c8,c9,U,T,R⟩:=cells13 bg.out;have cs:=zaa bg.out;have aj:=H_ (ak.out.done H8.out cw.out cj.out);have aB:=H_ (zar w8 (evC ⟨2,⟨z1,⟨#[]⟩,0,D.rev+1,0,0⟩,⟨z1,z2,z3,z4,z5,z6⟩⟩) 101 (0,0));have ch:=cd.out.2.2;go_wp2_with (at_builtin;(refine zbu rfl _ _ 28 rfl 101 i0 _ 13 136 Tryz.underlying28 dK dH dE dw rfl (by decide) _ _ rfl (aj.out.evs.alloc _) w8.heap.size 1 ⟨2,⟨z1,⟨#[]⟩,0,D.rev+1,0,0⟩,⟨z1,z2,z3,z4,z5,z6⟩⟩ rfl aB.out rfl (zhf _) (by unfold maxLen;omega) (by omega) ?_));intro g9 o9 N w9 aZ b7 b8 ds;have cm:=H_ aZ;have aY:=H_ b7;have b3:=H_ b8;clear c0 c1 c2 c3 c4 c5 c6 c7 c8 c9 U T R cs aZ b7 b8 ch
            have aE:Hid (∀ b,(Value.slice (some ⟨g9,o9,none⟩) (EL.length+1) N).ownBlock=some b->u12.ownBlock=some b\/w8.heap.size+1<=b):=H_ (fun b c=>by
             have C:g9=b:=(by simpa [Value.ownBlock] using c);rcases b3.out with h | h
             · exact .inl (C▸h)
             right;rw [<-C,h];exact Nat.le_of_eq (by simp))
            have F:=H_ ((aj.out.fr0 ((Fr.refl No w8).alloc _)).event aY.out cm.out (fun b c=>(aE.out b c).imp id fun h=>by simpa using h));have H:Fr (fun b=>u12.ownBlock=some b) W7 w9:=(((H8.out.trans0 ((Fr.refl No w8).alloc _)).mono fun _ _ h=>h.elim)).trans aY.out fun _ _ h=>h;have dt:=H_ H;have L:=H_ (H.heap S.out a7.out);have aA:=H_ (Y.out.fr H fun b c e=>(aK.out b c) e);have dk:=H8.out.size
            have ay:Hid (∀ b,(Value.slice (some ⟨gv,ov,none⟩) K.length P).ownBlock=some b->u11.ownBlock≠some b/\(Value.slice (some ⟨g9,o9,none⟩) (EL.length+1) N).ownBlock≠some b/\W2.heap.size<=b):=H_ (fun b c=>⟨bM.out b c,fun e=>by
             rcases aE.out b e with h | h
             · exact aK.out b c h
             have:=Y.out.lt b c;omega,bN.out b c⟩)
            have bw:Hid ((Value.slice (some ⟨g9,o9,none⟩) (EL.length+1) N).ownBlock≠some V):=H_ (fun e=>by
             rcases aE.out V e with h | h
             · exact a7.out h
             have:=zaa S.out;omega)
            clear H
            go_wp2;go_roundg gL
            case rel =>
             obtain ⟨fI,hc,hf⟩:=cd.out;have gM:=zjw NL ⟨2,⟨z1,⟨#[]⟩,0,D.rev+1,0,0⟩,⟨z1,z2,z3,z4,z5,z6⟩⟩;have fu:(doneL NL ⟨2,⟨z1,⟨#[]⟩,0,D.rev+1,0,0⟩,⟨z1,z2,z3,z4,z5,z6⟩⟩).length<=1000000+(k+1):=(by omega);have fG:(EL++([⟨2,⟨z1,⟨#[]⟩,0,D.rev+1,0,0⟩,⟨z1,z2,z3,z4,z5,z6⟩⟩]:List Ev)).length<=1000000+(k+1):=(by rw [List.length_append];simp only [List.length_singleton];omega);exact ⟨k+1,_,_,_,_,rfl,rfl,by go_num,by omega,F,L,aA,bw,H_ (fun b c=>(ay.out b c).2.1),H_ ⟨zck fI _,fu,fG⟩,H_ ef.out.symm,H_ ep.out.symm⟩
            case measure=>omega
  have gh:(E==0)=false:=beq_eq_false_iff_ne.2 hE0
  have dU:zbc D ops=E:=by
   rcases HE.out with ⟨a,b,_⟩ | ⟨a,b⟩
   · rw [cT.out,if_pos a,b]
   have h1:zba D (ops.take i)≠0:=by rw [<-b];exact hE0
   have h2:=zle h1;rw [cT.out,a,if_neg (by simp),if_pos (by rw [h2];exact h1),h2,b]
  have cX:=H_ dU;have aJ:Hid (zbc D ops≠0):=H_ (by rw [dU];exact hE0);clear dU;by_cases cN:(i:Int)<(ops.length:Int)
  · skip
    have B:=HR.out wr HF.out;obtain ⟨x0,x1,x2,x3⟩:=HS.out wr HF.out;have lx:=World.block_lt_of_cell? _ _ x0;obtain ⟨y0,y1,y2,y3⟩:=cells4 B;have yf:∀ j,(wr).frozen? ⟨rb,j,none⟩=false:=fun j=>by simp [World.frozen?,B]
    have lr:=zaa B;obtain ⟨Zw,hZ,Q,a5,_⟩:=zcx (w:=w) B (.int .i64 D.rev) (.int .i64 D.mark) (.slice a1 D.kvs.length k1) (.slice a2 D.events.length k2);have HZ:=H_ hZ;have aS:=H_ Q;have a9:=H_ (a5 (ah.out.trans0 HF.out) (by omega));clear hZ Q a5 B;go_wp2;rw [HZ.out];refine bodyPost_ret (zcy rfl _ _ rb 30 _ (0,0) _ rfl aS.out Tryz.underlying30 rfl (by kernel_rfl)) rfl ?_;refine ApplyX.of cX.out (if_neg aJ.out) rfl ?_ (SlR.nil _ _ _) (AnsR.nil _) (if_neg aJ.out).symm a9.out;rw [show zdn D ops=D from if_neg aJ.out];exact ⟨a1,k1,a2,k2,rfl,cy.out _ a9.out,fun _ h0 h=>.inl ⟨h0,h⟩,fun _ h0 h=>.inl ⟨h0,h⟩⟩
  skip
  have B:=HR.out wr HF.out;obtain ⟨x0,x1,x2,x3⟩:=HS.out wr HF.out;have lx:=World.block_lt_of_cell? _ _ x0;obtain ⟨y0,y1,y2,y3⟩:=cells4 B;have yf:∀ j,(wr).frozen? ⟨rb,j,none⟩=false:=fun j=>by simp [World.frozen?,B]
  have lr:=zaa B;obtain ⟨Zw,hZ,Q,a5,_⟩:=zcx (w:=w) B (.int .i64 D.rev) (.int .i64 D.mark) (.slice a1 D.kvs.length k1) (.slice a2 D.events.length k2);have HZ:=H_ hZ;have aS:=H_ Q;have a9:=H_ (a5 (ah.out.trans0 HF.out) (by omega));clear hZ Q a5 B;go_wp2;rw [HZ.out];refine bodyPost_ret (zcy rfl _ _ rb 30 _ (0,0) _ rfl aS.out Tryz.underlying30 rfl (by kernel_rfl)) rfl ?_;refine ApplyX.of cX.out (if_neg aJ.out) rfl ?_ (SlR.nil _ _ _) (AnsR.nil _) (if_neg aJ.out).symm a9.out;rw [show zdn D ops=D from if_neg aJ.out];exact ⟨a1,k1,a2,k2,rfl,cy.out _ a9.out,fun _ h0 h=>.inl ⟨h0,h⟩,fun _ h0 h=>.inl ⟨h0,h⟩⟩
end Go.Proofs.YthljnnjpmdgkoaaGreat
