/- Own lemmas. -/
import Derived.Test.YthljnnjpmdgkoaaGreatK10
import Derived.Test.YthljnnjpmdgkoaaGreatK11
import Derived.Test.YthljnnjpmdgkoaaGreatK05
namespace Go.Proofs.YthljnnjpmdgkoaaGreat
open Go Go.Proofs Go.RowKit
set_option maxRecDepth 100000
theorem znx {T:Pairs} {key:ByteArray} {n:Int} (h:getT T key=(n,false)):n=0/\delT T key=T:=by
 unfold getT at h
 split at h
 · simp at h
 rename_i hf
 refine ⟨by simp at h;exact h.symm,?_⟩;unfold delT;refine List.filter_eq_self.2 fun p hp=>?_;have:=List.find?_eq_none.1 hf p hp;simpa using this
def DelEnd (w:World) (t:Nat) (A:Arr) (many:Int) (F:Nat->Prop) (T:Pairs) (key:ByteArray) (e:Ending) (w':World):Prop :=
 e=.returned (zcw (getT T key))/\∃ A' fl' root' F',TreeZ w' t A' fl' root' (many-if (getT T key).2 then 1 else 0) F'/\GoodT A' fl' root' (delT T key)/\A'.length=A.length/\Fr F w w'/\(∀ b,F' b->F b\/w.heap.size<=b)
set_option maxHeartbeats 4000000 in
theorem ztr (w:World) (t:Nat) (A:Arr) (fl:List Nat) (root:Nat) (many:Int) (F:Nat->Prop) (T:Pairs) (key:ByteArray) (h:TreeZ w t A fl root many F) (hg:GoodT A fl root T) (hA:A.length<=109951162) (hm:0<=many/\many<=1000000) :
 Calls Tryz.prog 103 #[.pointer (some ⟨t,0,none⟩),.string key] w (DelEnd w t A many F T key):=by
 have k:=zlc w t A fl root many F T key h hg hA;have HZ:=H_ h;unfold DelEnd
 cases hgt:getT T key with
 | mk n ok =>
 rw [hgt] at k;unfold zcw at k ⊢
 cases ok with
 | false =>
   obtain ⟨hn,hd⟩:=znx hgt;subst hn;rw [hd];have HG:=H_ hg;clear hg h hgt hd;go_enter Tryz.func103,Tryz.ntmps103;go_wp2_with (go_at_call 121;refine k.mono ?_;clear k;rintro e w1 ⟨rfl,m⟩)
   go_ret2
   exact ⟨rfl,A,fl,root,F,by simpa using HZ.out.fr0 m,HG.out,rfl,m.mono fun _ _ s=>s.elim,fun b hb=>.inl hb⟩
 | true =>
   obtain ⟨g,d1,d2,d3,d4,d5,d6,d7⟩:=zza hg key (by rw [hgt]);have y:=fun (W:World) (hz:TreeZ W t A fl root many F)=>znc W t A fl root many F hz root key g d1 hA;generalize delA g A fl root key=r at y d2 d4 d5 d6 d7;obtain ⟨C,l⟩:=r;dsimp only at y d2 d4 d5 d6 d7;obtain ⟨nv,fv,Z,hR,hZ,hF⟩:=h;have c2:=hR.obj.cell 2 rfl;have aB:=H_ d5;have aP:=H_ d6;have an:=H_ d7;clear d1 d5 d6 d7 hR hZ hF hg hgt;go_enter Tryz.func103,Tryz.ntmps103
   go_upto_region 5 with (first
    | (go_at_call 121;refine k.mono ?_;clear k;rintro e w1 ⟨rfl,m⟩;replace c2:=m.cell0 c2)
    | (go_at_call 148;refine (y _ (HZ.out.fr0 m)).mono ?_;clear y;rintro e w2 ⟨⟨v,rfl⟩,F1,aH,aa,aq⟩))
   obtain ⟨bj,ah,Y,o,H,ab⟩:=aH;obtain ⟨c,Q,X⟩:=zbk H (i:=root) (by omega);have aI:root<Y.length:=(List.getElem?_eq_some_iff.1 Q).1;have bg:Y.length<=109951162:=(by rw [<-zaw,H];omega);obtain ⟨nb,no,cap,rfl,b3⟩:=o.headLen (by omega);rw [<-X] at d4;have x3:=o.obj.cell 3 rfl;have aC:=o.obj.free 3;have aJ:t<w2.heap.size:=o.obj.lt;have ho:=o.obj.set 3 (.int .i64 (many-1));have u:Fr (fun b=>b=t) w2 (w2.setCell ⟨t,3,none⟩ (.int .i64 (many-1))):=(Fr.refl _ w2).setAt _ _;have aj:=o.setObj u root (many-1) ho;have d:=H_ aj;have ao:=H_ u;have aK:=H_ ab;have S:=H_ H;have U:=H_ Q;have I:=H_ X;have aW:=H_ aq;have aG:Hid (Fr F w w2):=H_ ((m.mono fun _ _ s=>s.elim).trans aa fun b _ e=>e)
   have aL:Hid (w.heap.size<=w1.heap.size):=H_ m.size;have aN:IntKind.i64.wrap (many-1)=many-1:=(by rw [IntKind.wrap_i64];omega);clear o H ab Q X aq aa u aj ho m c2;go_upto_region 6 with fail;generalize w2.setCell ⟨t,3,none⟩ (.int .i64 (many-1))=G at d ao ⊢
   clear aJ x3 aC aN;obtain ⟨a1,a2,a3,a4⟩:=d.out.look root c U.out;have c0:=d.out.obj.cell 0 rfl;have c2:=d.out.obj.cell 2 rfl;have aM:=d.out.obj.free 2;have hP:=d.out.pairs root c U.out;have hK:=d.out.kids root c U.out;obtain ⟨pa,j,ap,bs,bk,aV⟩:=hP.shape;obtain ⟨ka,f,ae,bd,bn,K⟩:=hK.shape;rw [ap] at a1;rw [ae] at a2 hK;have bm:(root:Int)<(Y.length:Int):=(by omega);have b8:t<G.heap.size:=d.out.obj.lt;have ba:nb<G.heap.size:=d.out.nodes.lt nb rfl
   have z:∀ b,treeF t (.slice (some ⟨nb,no,none⟩) Y.length cap) ah Y b->F b\/w.heap.size<=b:=fun b hb=>by
    rcases aW.out b ((aK.out b).2 hb) with e | e
    · exact .inl e
    exact .inr (by have:=aL.out;omega)
   have O:Fr F w G:=aG.out.trans ao.out fun b hb e=>by
    rcases z b (.inl e) with e | e
    · exact e
    omega
   have x:=H_ z;have D:=H_ O;clear z O hP ap ae aV;have aE:c.nd.pairs.length<=9:=d4
   go_region
   have E:=((Fr.refl No G).alloc (.cells #[.slice pa c.nd.pairs.length j,.slice ka c.nd.kids.length f] 231)).drew;have R:=zad G (.cells #[.slice pa c.nd.pairs.length j,.slice ka c.nd.kids.length f] 231) _ rfl;have y0:(G.alloc (.cells #[.slice pa c.nd.pairs.length j,.slice ka c.nd.kids.length f] 231)).drew.cell? ⟨G.heap.size,0,none⟩=some (.slice pa c.nd.pairs.length j):=((Fr.refl No _).drew).cell0 (by unfold World.cell?;dsimp only;rw [R];rfl);have y1:(G.alloc (.cells #[.slice pa c.nd.pairs.length j,.slice ka c.nd.kids.length f] 231)).drew.cell? ⟨G.heap.size,1,none⟩=some (.slice ka c.nd.kids.length f):=((Fr.refl No _).drew).cell0 (by unfold World.cell?;dsimp only;rw [R];rfl);generalize (G.alloc (.cells #[.slice pa c.nd.pairs.length j,.slice ka c.nd.kids.length f] 231)).drew=W4 at E y0 y1 ⊢
   have B:=H_ (d.out.fr0 E);have J:=H_ E
   replace c2:=E.cell0 c2
   have b0:=B.out.obj.free 2;have b9:t<W4.heap.size:=B.out.obj.lt;clear c0 a1 a2 a3 a4 R aM E;by_cases hsh:c.nd.pairs.length=0/\c.nd.kids≠[]
   · have L:0<c.nd.kids.length:=List.length_pos_iff.2 hsh.2
     obtain ⟨kb,ko,rfl⟩:=K L;have hc:=aP.out (by rw [<-I.out];exact hsh.2);have p:zdh C l root=(C.set root nd0,l++[root],kidA C root 0):=(by unfold zdh;rw [if_pos (by rw [<-I.out];exact hsh)]);rw [<-I.out] at hc;generalize kidA C root 0=kid at hc p;have aQ:=(J.out.cell0 (hK.cell1 zah 0 hc rfl));simp only [Nat.add_zero] at aQ;have ak:((c.nd.pairs.length:Int)==0)=true:=(by rw [beq_iff_eq];omega);have bp:(0:Int)<(c.nd.kids.length:Int):=(by omega);have ho:=B.out.obj.set 2 (.int .i64 (kid:Int));have u:=(Fr.refl (fun b=>b=t) W4).setAt 2 (.int .i64 (kid:Int));have am:=B.out.setObj u kid (many-1) ho
     have af:TreeZ (W4.setCell ⟨t,2,none⟩ (.int .i64 (kid:Int))) t C l kid (many-1) (treeF t (.slice (some ⟨nb,no,none⟩) Y.length cap) ah Y):=⟨_,_,_,am,S.out,fun b=>Iff.rfl⟩;have aT:=H_ af;have M:=H_ u;have aS:=H_ p;have ag:l.length<=1099511627:=(by have:=aB.out;omega);have aO:C.length<=1099511627:=(by omega);have ad:root<C.length:=(by rw [<-S.out,zaw];exact aI);clear hsh L hc p ho u am af hK K;go_wp2_with (go_at_call 149;refine (zkz _ t C l kid (many-1) _ aT.out root ad aO ag).mono ?_;rintro e w6 ⟨rfl,F6,aF,aU,aD⟩)
     go_ret2
     have q:=an.out;rw [aS.out] at q;have aZ:=D.out.size;have aX:=J.out.size;have bb:=M.out.size;refine ⟨rfl,_,_,kid,F6,by simpa using aF,q,by simp;exact d2,?_,fun b hb=>?_⟩
     · refine ((D.out.trans J.out fun _ _ s=>s.elim).trans M.out fun b hb e=>?_).trans aU fun b hb e=>?_
       · rcases x.out b (.inl e) with e | e
         · exact e
         omega
       rcases x.out b e with e | e
       · exact e
       omega
     rcases aD b hb with e | e
     · exact x.out b e
     exact .inr (by omega)
   have p:zdh C l root=(C,l,root):=by unfold zdh;rw [if_neg (by rw [<-I.out];exact hsh)]
   have q:=an.out;rw [p] at q;have aR:=H_ q
   have N:Hid (∀ W,Fr No W4 W->∃ A' fl' a F',TreeZ W t A' fl' a (many-1) F'/\GoodT A' fl' a (delT T key)/\A'.length=A.length/\Fr F w W/\(∀ b,F' b->F b\/w.heap.size<=b)):=H_ fun W hW =>
    ⟨C,l,root,_,⟨_,_,_,B.out.fr0 hW,S.out,fun b=>Iff.rfl⟩,aR.out,d2,(D.out.trans J.out fun _ _ s=>s.elim).trans hW fun _ _ s=>s.elim,x.out⟩
   by_cases hp:c.nd.pairs.length=0
   · have ak:((c.nd.pairs.length:Int)==0)=true:=by rw [beq_iff_eq];omega
     have al:c.nd.kids = []:=Classical.byContradiction fun e=>hsh ⟨hp,e⟩;have L:c.nd.kids.length=0:=(by rw [al];rfl);rw [L] at y1;clear hsh p q hK K al;go_wp2_with fail
     go_ret2
     obtain ⟨A',fl',a,F',V,P⟩:=N.out _ (Fr.refl No _);exact ⟨rfl,A',fl',a,F',by simpa using V,P⟩
   have ak:((c.nd.pairs.length:Int)==0)=false:=by rw [beq_eq_false_iff_ne];omega
   clear hsh p q hK K;go_wp2_with fail
   go_ret2
   obtain ⟨A',fl',a,F',V,P⟩:=N.out _ (Fr.refl No _);exact ⟨rfl,A',fl',a,F',by simpa using V,P⟩
structure zzi (TA:zaq):Prop where
 del:∀ {w t T F} (key:ByteArray),TA w t T F->Calls Tryz.prog 103 #[.pointer (some ⟨t,0,none⟩),.string key] w fun e w'=>e=.returned (zcw (getT T key))/\∃ F',TA w' t (delT T key) F'/\Fr F w w'/\(∀ b,F' b->F b\/w.heap.size<=b)
theorem zwl:zzi zwd where
 del {w t T F} key h:=by
  obtain ⟨A,fl,root,h,h2,h3,h4⟩:=h;refine (ztr w t A fl root T.length F T key h h2 (by omega) ⟨by omega,by omega⟩).mono ?_;rintro e w' ⟨he,A',fl',root',F',b1,b2,b3,b4,b5⟩;have hsT:Sorted T:=(by obtain ⟨D,hD⟩:=h2;exact hD.sorted)
  have hl:((delT T key).length:Int)=(T.length:Int)-if (getT T key).2 then 1 else 0:=by
   cases hg:getT T key with
   | mk n ok =>
   cases ok with
   | false=>rw [(znx hg).2];simp
   | true=>have:=zxz key T hsT (by rw [hg]);simp;omega
  have hle:(delT T key).length<=T.length:=List.length_filter_le _ _;exact ⟨he,F',⟨A',fl',root',by rw [hl];exact b1,b2,by omega,by omega⟩,b4,b5⟩
def KeyAt (w:World) (g:Nat) (K:List Gen) (last:Int) (F:Nat->Prop):Prop :=
 ∃ gv Z,KeyRep w g gv Z last/\Z.map (·.1)=K/\∀ b,F b↔keyF g gv Z b
theorem zyu {w:World} {g:Nat} {gv:Value} {Z:List (Gen×Value)} {last:Int} (h:KeyRep w g gv Z last):∀ b,keyF g gv Z b->b<w.heap.size:=by
 rintro b (rfl | e | ⟨i,p,a,e⟩)
 · exact h.obj.lt
 · exact h.gens.lt b e
 exact (h.puts i p a).lt b e
theorem KeyAt.lt {w:World} {g:Nat} {K:List Gen} {last:Int} {F:Nat->Prop} (h:KeyAt w g K last F):∀ b,F b->b<w.heap.size:=by
 obtain ⟨a,Z,h,_,hF⟩:=h;exact fun b hb=>zyu h b ((hF b).1 hb)
theorem KeyRep.fr {w w':World} {g:Nat} {gv:Value} {Z:List (Gen×Value)} {last:Int} {S:Nat->Prop} (h:KeyRep w g gv Z last) (hf:Fr S w w') (hn:∀ b,keyF g gv Z b->¬ S b):KeyRep w' g gv Z last :=
 ⟨h.obj.fr hf (hn g (.inl rfl)),h.gens.fr hf fun k hk=>hn k (.inr (.inl hk)),fun i p hp=>(h.puts i p hp).fr hf fun k hk=>hn k (.inr (.inr ⟨i,p,hp,hk⟩)),h.apart,h.apart2,h.own⟩
theorem KeyAt.fr {w w':World} {g:Nat} {K:List Gen} {last:Int} {F S:Nat->Prop} (h:KeyAt w g K last F) (hf:Fr S w w') (hn:∀ b,F b->¬ S b):KeyAt w' g K last F:=by
 obtain ⟨a,Z,h,c,hF⟩:=h;exact ⟨a,Z,h.fr hf fun b hb=>hn b ((hF b).2 hb),c,hF⟩
def putK (K:List Gen) (rev:Int):List Gen :=
 if isOpen K then K.modify (K.length-1) fun x=>{ x with puts:=x.puts++[rev] } else K++[{ create:=rev,cut:=0,puts:=[rev],end_:=0 }]
def Fits (K:List Gen):Prop:=K.length<=1099511627/\∀ x∈K,x.puts.length<=1099511627/\0<=x.cut/\x.cut<=1099511627776
theorem zun (w:World) (g:Nat) (K:List Gen) (last rev:Int) (F:Nat->Prop) (h:KeyAt w g K last F) (hK:Fits K) :
 Calls Tryz.prog 160 #[.pointer (some ⟨g,0,none⟩),.int .i64 rev] w fun e w'=>e=.returned (.int .i64 0) ∧
  ∃ F',KeyAt w' g (putK K rev) last F'/\Fr F w w'/\(∀ b,F' b->F b\/w.heap.size<=b):=by
 obtain ⟨n,Z,h,rfl,hF⟩:=h;have r:Z.length<=1099511627:=by have:=hK.1;simpa using this
 by_cases ho:isOpen (Z.map (·.1))=true
 · have p:Z.length≠0:=by
    intro p;obtain rfl:=List.eq_nil_of_length_eq_zero p;simp [isOpen] at ho
   obtain ⟨x,pv,c⟩:∃ x pv,Z[Z.length-1]?=some (x,pv):=⟨_,_,List.getElem?_eq_getElem (by omega)⟩;have s:x.puts.length<=1099511627:=(hK.2 x (List.mem_map.2 ⟨_,List.mem_of_getElem? c,rfl⟩)).1;refine (zwt w g n Z last rev x pv h c ho (by omega) (by omega)).mono ?_;rintro e w' ⟨rfl,v',k,l,j⟩;refine ⟨rfl,_,⟨n,_,k,?_,fun b=>Iff.rfl⟩,l.mono fun b _ hb=>(hF b).2 hb,?_⟩
   · unfold putK
     rw [if_pos ho];apply List.ext_getElem?;intro i;have d:Z.length-1<Z.length:=(by omega);by_cases hi:Z.length-1=i
     · subst hi
       have o:Z[Z.length-1]=(x,pv):=(List.getElem?_eq_some_iff.1 c).2;simp [d,o]
     simp [hi]
   rintro b (rfl | e | ⟨i,q,a,e⟩)
   · exact .inl ((hF _).2 (.inl rfl))
   · exact .inl ((hF _).2 (.inr (.inl e)))
   rw [List.getElem?_set] at a
   split at a
   · split at a
     · simp at a
       subst a;rcases j b e with e | e
       · exact .inl ((hF _).2 (.inr (.inr ⟨_,_,c,e⟩)))
       exact .inr e
     cases a
   exact .inl ((hF _).2 (.inr (.inr ⟨_,_,a,e⟩)))
 simp only [Bool.not_eq_true] at ho
 refine (zyo w g n Z last rev h ho r).mono ?_;rintro e w' ⟨rfl,f,v',k,l,j,m⟩;refine ⟨rfl,_,⟨f,_,k,?_,fun b=>Iff.rfl⟩,l.mono fun b _ hb=>(hF b).2 hb,?_⟩
 · unfold putK
   rw [ho];simp [zcd]
 rintro b (rfl | e | ⟨i,q,a,e⟩)
 · exact .inl ((hF _).2 (.inl rfl))
 · rcases m b e with e | e
   · exact .inl ((hF _).2 (.inr (.inl e)))
   exact .inr e
 rw [List.getElem?_append] at a
 split at a
 · exact .inl ((hF _).2 (.inr (.inr ⟨_,_,a,e⟩)))
 rw [List.getElem?_singleton] at a
 split at a
 · simp at a
   subst a;exact .inr (j b e)
 cases a
theorem KeyAt.setLast {w w':World} {g:Nat} {K:List Gen} {last:Int} {F:Nat->Prop} (h:KeyAt w g K last F) (rev:Int) (hw:w'=w.setCell ⟨g,1,none⟩ (.int .i64 rev)):KeyAt w' g K rev F:=by
 subst hw;obtain ⟨a,Z,h,b,hF⟩:=h;refine ⟨a,Z,⟨h.obj.set 1 _,h.gens.other _ _ h.own,fun i p hp=>(h.puts i p hp).other _ _ fun e=>(h.apart i p hp _ e).1 rfl,h.apart,h.apart2,h.own⟩,b,hF⟩
theorem KeyAt.cells {w:World} {g:Nat} {K:List Gen} {last:Int} {F:Nat->Prop} (h:KeyAt w g K last F):w.cell? ⟨g,1,none⟩=some (.int .i64 last)/\w.frozen? ⟨g,1,none⟩=false/\F g/\g<w.heap.size:=by
 obtain ⟨a,Z,h,b,hF⟩:=h;exact ⟨h.obj.cell 1 rfl,h.obj.free 1,(hF g).2 (.inl rfl),h.obj.lt⟩
theorem zwg (w:World) (g:Nat) (K:List Gen) (last rev:Int) (F:Nat->Prop) (h:KeyAt w g K last F) (hK:Fits K) (h1:1<=rev) (h2:rev<=1099511627776) (h3:last<rev) :
 Calls Tryz.prog 118 #[.pointer (some ⟨g,0,none⟩),.int .i64 rev] w fun e w'=>e=.returned (.int .i64 0) ∧
  ∃ F',KeyAt w' g (putK K rev) rev F'/\Fr F w w'/\(∀ b,F' b->F b\/w.heap.size<=b):=by
 have a:=zun w g K last rev F h hK;obtain ⟨q,n,f,l⟩:=h.cells;have m:∀ (fn:Fn) (first cap:Array Value) (w:World),(Instr.makeFunc fn first cap).run Tryz.prog w=.ok (.func fn first cap) w:=fun _ _ _ _=>rfl;have s:¬ rev<1:=by omega
 have r:¬ 1099511627776<rev:=by omega
 have p:¬ rev<=last:=by omega
 clear h hK;go_enter Tryz.func118,Tryz.ntmps118
 go_wp2_with (first
  | (go_at_call 160;refine a.mono ?_;clear a;rintro e w1 ⟨rfl,F',c,d,i⟩;obtain ⟨k,j,_,_⟩:=c.cells;have o:=H_ c;clear c)
  | (go_at_call 159;go_in))
 go_ret;refine ⟨rfl,F',o.out.setLast rev rfl,d.setCell (.inl f) _,i⟩
def tombK (K:List Gen) (rev:Int):List Gen:=K.modify (K.length-1) fun x=>{ x with end_:=rev }
theorem zir (w:World) (g:Nat) (K:List Gen) (last rev:Int) (F:Nat->Prop) (h:KeyAt w g K last F) (hK:Fits K) (ho:isOpen K=true) :
 Calls Tryz.prog 163 #[.pointer (some ⟨g,0,none⟩),.int .i64 rev] w fun e w'=>e=.returned (.int .i64 0)/\KeyAt w' g (tombK K rev) last F/\Fr F w w':=by
 obtain ⟨E,Z,h,rfl,hF⟩:=h;have G:Z.length<=1099511627:=by have:=hK.1;simpa using this
 have t:Z.length≠0:=by
  intro t;obtain rfl:=List.eq_nil_of_length_eq_zero t;simp [isOpen] at ho
 obtain ⟨x,pv,d⟩:∃ x pv,Z[Z.length-1]?=some (x,pv):=⟨_,_,List.getElem?_eq_getElem (by omega)⟩;obtain ⟨a,cap,rfl,v,C,u⟩:=h.gens.shape;obtain ⟨n,go,rfl⟩:=u (by omega);have f:=zje w g n go cap Z last h ho (by omega);have D:=h.gens.cell zal (Z.length-1) 3 d rfl;have A:=h.gens.free (go+(Z.length-1) * 4+3);have o:Z.length-1<Z.length:=by omega
 have y:n<w.heap.size:=h.gens.lt n rfl;have H:=H_ h;clear h;have B:=H_ d;clear d;clear u ho hK t;have z:=H_ hF;clear hF;go_enter Tryz.func163,Tryz.ntmps163;go_wp2_with (go_at_call 178;refine f.mono ?_;clear f;rintro e w' ⟨rfl,rfl⟩);go_ret;have h:=H.out;have d:=B.out;have hF:=z.out;refine ⟨rfl,⟨.slice (some ⟨n,go,none⟩) Z.length cap,Z.set (Z.length-1) ({ x with end_:=rev },pv),?_,?_,?_⟩,(Fr.refl _ w).setCell (p:=⟨n,go+(Z.length-1) * 4+3,none⟩) (.inl ((hF n).2 (.inr (.inl rfl)))) _⟩
 · constructor
   · exact h.obj.other _ _ fun e=>h.own (by rw [e];rfl)
   · simpa using h.gens.set zal _ 3 (by omega) (x,pv) ({ x with end_:=rev },pv) _ d rfl
   · intro i q c
     rw [List.getElem?_set] at c
     split at c
     · simp at c
       subst c;exact (h.puts _ _ d).other _ _ fun e=>(h.apart _ _ d _ e).2 rfl
     exact (h.puts _ _ c).other _ _ fun e=>(h.apart _ _ c _ e).2 rfl
   · intro i q c b l
     rw [List.getElem?_set] at c
     split at c
     · simp at c
       subst c;exact h.apart _ _ d b l
     exact h.apart _ _ c b l
   · intro i j q r c m b l k
     rw [List.getElem?_set] at c m
     split at c <;> split at m
     · omega
     · rename_i e1 e2
       simp at c;subst c;exact e1▸h.apart2 _ _ _ _ d m b l k
     · rename_i e1 e2
       simp at m;subst m;exact e2▸h.apart2 _ _ _ _ c d b l k
     exact h.apart2 _ _ _ _ c m b l k
   exact h.own
 · unfold tombK
   apply List.ext_getElem?;intro i;by_cases hi:Z.length-1=i
   · subst hi
     have s:Z[Z.length-1]=(x,pv):=(List.getElem?_eq_some_iff.1 d).2;simp [o,s]
   simp [hi]
 intro b
 rw [hF]
 constructor
 · rintro (rfl | e | ⟨i,q,c,e⟩)
   · exact .inl rfl
   · exact .inr (.inl e)
   by_cases hi:Z.length-1=i
   · subst hi
     rw [d] at c;cases c
     exact .inr (.inr ⟨Z.length-1,({ x with end_:=rev },pv),by simp [o],e⟩)
   exact .inr (.inr ⟨i,q,by simp [hi,c],e⟩)
 rintro (rfl | e | ⟨i,q,c,e⟩)
 · exact .inl rfl
 · exact .inr (.inl e)
 rw [List.getElem?_set] at c
 split at c
 · simp at c
   subst c;exact .inr (.inr ⟨_,_,d,e⟩)
 exact .inr (.inr ⟨_,_,c,e⟩)
theorem zka (w:World) (g:Nat) (K:List Gen) (last rev:Int) (F:Nat->Prop) (h:KeyAt w g K last F) (hK:Fits K) (ho:isOpen K=true) (h1:1<=rev) (h2:rev<=1099511627776) (h3:last<rev) :
 Calls Tryz.prog 123 #[.pointer (some ⟨g,0,none⟩),.int .i64 rev] w fun e w'=>e=.returned (.int .i64 0)/\KeyAt w' g (tombK K rev) rev F/\Fr F w w':=by
 have a:=zir w g K last rev F h hK ho;obtain ⟨n,m,d,k⟩:=h.cells;have l:∀ (fn:Fn) (first cap:Array Value) (w:World),(Instr.makeFunc fn first cap).run Tryz.prog w=.ok (.func fn first cap) w:=fun _ _ _ _=>rfl;have q:¬ rev<1:=by omega
 have p:¬ 1099511627776<rev:=by omega
 have o:¬ rev<=last:=by omega
 clear h hK ho;go_enter Tryz.func123,Tryz.ntmps123
 go_wp2_with (first
  | (go_at_call 163;refine a.mono ?_;clear a;rintro e w1 ⟨rfl,b,c⟩;obtain ⟨j,f,_,_⟩:=b.cells;have i:=H_ b;clear b)
  | (go_at_call 159;go_in))
 go_ret;exact ⟨rfl,i.out.setLast rev rfl,c.setCell (.inl d) _⟩
theorem zmk (w:World):Calls Tryz.prog 117 #[] w fun e w'=>∃ g,e=.returned (.pointer (some ⟨g,0,none⟩))/\∃ F,KeyAt w' g [] 0 F/\Fr No w w'/\(∀ b,F b->w.heap.size<=b):=by
 go_enter Tryz.func117,Tryz.ntmps117;go_wp2;go_ret;refine ⟨_,rfl,keyF w.heap.size (.slice none 0 0) [],⟨.slice none 0 0,[],⟨Has.new w _ _,SlF.nil _ _ _ _,by simp,by simp,by simp,by simp [Value.ownBlock]⟩,rfl,fun b=>Iff.rfl⟩,(Fr.refl _ w).alloc _,?_⟩;rintro b (rfl | e | ⟨i,q,a,e⟩)
 · omega
 · simp [Value.ownBlock] at e
 simp at a
def upTo (l:List Int) (rev:Int):Nat:=l.findIdx fun p=>decide (rev<p)
def idxInt (l:List Int) (rev:Int):Int:=if upTo l rev=l.length then -1 else (upTo l rev:Int)
theorem zkl (w:World) (v:Value) (l:List Int) (rev:Int) (tb:Nat) (hv:SlF w 3 1 int1 v l) (hl:l.length<=1099511627776) (ht:w.cell? ⟨tb,0,none⟩=some (.int .i64 rev)) :
 Calls Tryz.prog 168 #[v,.func (.func 169) #[] #[.pointer (some ⟨tb,0,none⟩)]] w fun e w'=>e=.returned (.int .i64 (idxInt l rev))/\w=w':=by
 obtain ⟨a,cap,rfl,r,y,q⟩:=hv.shape;have t:=H_ hv;clear hv;have u:=H_ q;clear q;go_enter Tryz.func168,Tryz.ntmps168;go_wp2
 go_loopg [8] l.length (fun g s8 wr=>∃ i:Nat,s8=.int .i64 i/\i+g=l.length/\Hid (∀ j,j<i->¬ rev<l[j]?.getD 0)/\w=wr)
 case atStart=>exact ⟨0,rfl,by simp,H_ (by simp),rfl⟩
 case round =>
  obtain ⟨i,rfl,A,n,rfl⟩:=hrel
  cases gk with
  | zero =>
    have d:¬ (i:Int)<(l.length:Int):=(by omega);go_wp2;go_ret;refine ⟨?_,rfl⟩
    have m:upTo l rev=l.length:=by
     unfold upTo;rw [List.findIdx_eq_length];intro x b;obtain ⟨j,c,rfl⟩:=List.getElem_of_mem b;have:=n.out j (by omega);simpa [c] using this
    unfold idxInt;rw [if_pos m]
    rfl
  | succ g =>
    obtain ⟨z,go,rfl⟩:=u.out (by omega);have b:l[i]?=some (l[i]'(by omega)):=List.getElem?_eq_getElem (by omega);have s:=t.out.cell1 zeq i b rfl;have d:(i:Int)<(l.length:Int):=(by omega);by_cases hp:rev<l[i]'(by omega)
    · have f:decide (rev<l[i]'(by omega))=true:=by simpa using hp
      have p:=H_ b;have k:=H_ hp;clear b hp;go_wp2;go_ret;refine ⟨?_,rfl⟩
      have m:upTo l rev=i:=by
       unfold upTo;rw [List.findIdx_eq (by omega)];refine ⟨by simpa using k.out,fun j c=>?_⟩;have:=n.out j c;have o:j<l.length:=(by omega);simpa [o] using this
      unfold idxInt;rw [if_neg (by omega),m]
      rfl
    have f:decide (rev<l[i]'(by omega))=false:=by simpa using hp
    have p:=H_ b;have k:=H_ hp;clear b hp;go_wp2;go_roundg g
    case rel =>
     refine ⟨i+1,by go_num,by omega,H_ fun j c=>?_,rfl⟩;by_cases hji:j=i
     · subst hji
       rw [p.out];exact k.out
     exact n.out j (by omega)
    case measure=>omega
theorem zei (l:List Int) (rev:Int):upTo l rev<=l.length:=List.findIdx_le_length
theorem zks (w:World) (x:Gen) (pv:Value) (rev:Int) (hv:SlF w 3 1 int1 pv x.puts) (hl:x.puts.length<=1099511627776) :
 Calls Tryz.prog 147 #[.agg #[.int .i64 x.create,.int .i64 x.cut,pv,.int .i64 x.end_],.int .i64 rev] w fun e w'=>e=.returned (.int .i64 (upTo x.puts rev))/\Fr No w w':=by
 have l:∀ (fn:Fn) (first cap:Array Value) (w:World),(Instr.makeFunc fn first cap).run Tryz.prog w=.ok (.func fn first cap) w:=fun _ _ _ _=>rfl;obtain ⟨a,cap,rfl,f,j,m⟩:=hv.shape;have b:=fun W hw ht=>zkl W (.slice a x.puts.length cap) x.puts rev (w.heap.size+1) hw hl ht;have k:=zei x.puts rev;have d:=H_ hv;clear hv m;by_cases hu:upTo x.puts rev=x.puts.length
 · have c:idxInt x.puts rev = -1:=by unfold idxInt;rw [if_pos hu]
   rw [c] at b;have g:=H_ hu;clear hu c;go_enter Tryz.func147,Tryz.ntmps147;go_wp2_with (go_at_call 168;refine (b _ (by exact (d.out.alloc _).alloc _) (by simp [go_sem])).mono ?_;rintro e i ⟨rfl,rfl⟩);go_ret;exact ⟨by rw [g.out];rfl,((Fr.refl _ w).alloc _).alloc _⟩
 have c:idxInt x.puts rev=(upTo x.puts rev:Int):=by unfold idxInt;rw [if_neg hu]
 rw [c] at b;generalize upTo x.puts rev=n at *;clear c hu;go_enter Tryz.func147,Tryz.ntmps147;go_wp2_with (go_at_call 168;refine (b _ (by exact (d.out.alloc _).alloc _) (by simp [go_sem])).mono ?_;rintro e i ⟨rfl,rfl⟩);go_ret;exact ⟨rfl,((Fr.refl _ w).alloc _).alloc _⟩
end Go.Proofs.YthljnnjpmdgkoaaGreat