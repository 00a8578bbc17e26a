/- Own lemmas. -/
import Derived.Test.YthljnnjpmdgkoaaGreatI10
import Derived.Test.YthljnnjpmdgkoaaGreatI11
import Derived.Test.YthljnnjpmdgkoaaGreatI05
namespace Go.Proofs.YthljnnjpmdgkoaaGreat
open Go Go.Proofs Go.RowKit
set_option maxRecDepth 100000
theorem zpr {T:Pairs} {key:ByteArray} {n:Int} (h:getT T key=(n,false)):n=0/\delT T key=T:=by
 unfold getT at h
 split at h
 · simp at h
 rename_i hf
 refine ⟨by simp at h;exact h.symm,?_⟩;unfold delT;refine List.filter_eq_self.2 fun p hp=>?_;have:=List.find?_eq_none.1 hf p hp;simpa using this
def DelEnd (w:World) (t:Nat) (A:Arr) (many:Int) (F:Nat->Prop) (T:Pairs) (key:ByteArray) (e:Ending) (w':World):Prop :=
 e=.returned (zdb (getT T key))/\∃ A' fl' root' F',TreeZ w' t A' fl' root' (many-if (getT T key).2 then 1 else 0) F'/\GoodT A' fl' root' (delT T key)/\A'.length=A.length/\Fr F w w'/\(∀ b,F' b->F b\/w.heap.size<=b)
set_option maxHeartbeats 4000000 in
theorem zvn (w:World) (t:Nat) (A:Arr) (fl:List Nat) (root:Nat) (many:Int) (F:Nat->Prop) (T:Pairs) (key:ByteArray) (h:TreeZ w t A fl root many F) (hg:GoodT A fl root T) (hA:A.length<=109951162) (hm:0<=many/\many<=1000000) :
 Calls Tryz.prog 103 #[.pointer (some ⟨t,0,none⟩),.string key] w (DelEnd w t A many F T key):=by
 have f:=zms w t A fl root many F T key h hg hA;have HZ:=H_ h;unfold DelEnd
 cases hgt:getT T key with
 | mk n ok =>
 rw [hgt] at f;unfold zdb at f ⊢
 cases ok with
 | false =>
   obtain ⟨hn,hd⟩:=zpr hgt;subst hn;rw [hd];have HG:=H_ hg;clear hg h hgt hd;go_enter Tryz.func103,Tryz.ntmps103;go_wp2_with (go_at_call 121;refine f.mono ?_;clear f;rintro e w1 ⟨rfl,m⟩)
   go_ret2
   exact ⟨rfl,A,fl,root,F,by simpa using HZ.out.fr0 m,HG.out,rfl,m.mono fun _ _ s=>s.elim,fun b hb=>.inl hb⟩
 | true =>
   obtain ⟨g,d1,d2,d3,d4,d5,d6,d7⟩:=zzaw hg key (by rw [hgt]);have y:=fun (W:World) (hz:TreeZ W t A fl root many F)=>zoy W t A fl root many F hz root key g d1 hA;generalize delA g A fl root key=r at y d2 d4 d5 d6 d7;obtain ⟨z,l⟩:=r;dsimp only at y d2 d4 d5 d6 d7;obtain ⟨nv,fv,Z,hR,hZ,hF⟩:=h;have c2:=hR.obj.cell 2 rfl;have aB:=H_ d5;have aC:=H_ d6;have aa:=H_ d7;clear d1 d5 d6 d7 hR hZ hF hg hgt;go_enter Tryz.func103,Tryz.ntmps103
   go_upto_region 5 with (first
    | (go_at_call 121;refine f.mono ?_;clear f;rintro e w1 ⟨rfl,m⟩;replace c2:=m.cell0 c2)
    | (go_at_call 148;refine (y _ (HZ.out.fr0 m)).mono ?_;clear y;rintro e w2 ⟨⟨v,rfl⟩,F1,aU,ah,al⟩))
   obtain ⟨bt,ad,R,o,J,ae⟩:=aU;obtain ⟨c,Y,X⟩:=zbr J (i:=root) (by omega);have aT:root<R.length:=(List.getElem?_eq_some_iff.1 Y).1;have bs:R.length<=109951162:=(by rw [<-zay,J];omega);obtain ⟨nb,no,cap,rfl,b6⟩:=o.headLen (by omega);rw [<-X] at d4;have x3:=o.obj.cell 3 rfl;have aW:=o.obj.free 3;have aP:t<w2.heap.size:=o.obj.lt;have ho:=o.obj.set 3 (.int .i64 (many-1));have p:Fr (fun b=>b=t) w2 (w2.setCell ⟨t,3,none⟩ (.int .i64 (many-1))):=(Fr.refl _ w2).setAt _ _;have af:=o.setObj p root (many-1) ho;have d:=H_ af;have ab:=H_ p;have aD:=H_ ae;have P:=H_ J;have Q:=H_ Y;have I:=H_ X;have aG:=H_ al;have aE:Hid (Fr F w w2):=H_ ((m.mono fun _ _ s=>s.elim).trans ah fun b _ e=>e)
   have aI:Hid (w.heap.size<=w1.heap.size):=H_ m.size;have aQ:IntKind.i64.wrap (many-1)=many-1:=(by rw [IntKind.wrap_i64];omega);clear o J ae Y X al ah p af ho m c2;go_upto_region 6 with fail;generalize w2.setCell ⟨t,3,none⟩ (.int .i64 (many-1))=G at d ab ⊢
   clear aP x3 aW aQ;obtain ⟨a1,a2,a3,a4⟩:=d.out.look root c Q.out;have c0:=d.out.obj.cell 0 rfl;have c2:=d.out.obj.cell 2 rfl;have aK:=d.out.obj.free 2;have hP:=d.out.pairs root c Q.out;have hK:=d.out.kids root c Q.out;obtain ⟨pa,k,ao,bq,br,aS⟩:=hP.shape;obtain ⟨ka,j,ak,bn,bo,K⟩:=hK.shape;rw [ao] at a1;rw [ak] at a2 hK;have bl:(root:Int)<(R.length:Int):=(by omega);have b8:t<G.heap.size:=d.out.obj.lt;have ba:nb<G.heap.size:=d.out.nodes.lt nb rfl
   have E:∀ b,treeF t (.slice (some ⟨nb,no,none⟩) R.length cap) ad R b->F b\/w.heap.size<=b:=fun b hb=>by
    rcases aG.out b ((aD.out b).2 hb) with e | e
    · exact .inl e
    exact .inr (by have:=aI.out;omega)
   have N:Fr F w G:=aE.out.trans ab.out fun b hb e=>by
    rcases E b (.inl e) with e | e
    · exact e
    omega
   have x:=H_ E;have B:=H_ N;clear E N hP ao ak aS;have aO:c.nd.pairs.length<=9:=d4
   go_region
   have D:=((Fr.refl No G).alloc (.cells #[.slice pa c.nd.pairs.length k,.slice ka c.nd.kids.length j] 231)).drew;have S:=zad G (.cells #[.slice pa c.nd.pairs.length k,.slice ka c.nd.kids.length j] 231) _ rfl;have y0:(G.alloc (.cells #[.slice pa c.nd.pairs.length k,.slice ka c.nd.kids.length j] 231)).drew.cell? ⟨G.heap.size,0,none⟩=some (.slice pa c.nd.pairs.length k):=((Fr.refl No _).drew).cell0 (by unfold World.cell?;dsimp only;rw [S];rfl);have y1:(G.alloc (.cells #[.slice pa c.nd.pairs.length k,.slice ka c.nd.kids.length j] 231)).drew.cell? ⟨G.heap.size,1,none⟩=some (.slice ka c.nd.kids.length j):=((Fr.refl No _).drew).cell0 (by unfold World.cell?;dsimp only;rw [S];rfl);generalize (G.alloc (.cells #[.slice pa c.nd.pairs.length k,.slice ka c.nd.kids.length j] 231)).drew=W4 at D y0 y1 ⊢
   have C:=H_ (d.out.fr0 D);have H:=H_ D
   replace c2:=D.cell0 c2
   have b0:=C.out.obj.free 2;have b9:t<W4.heap.size:=C.out.obj.lt;clear c0 a1 a2 a3 a4 S aK D;by_cases hsh:c.nd.pairs.length=0/\c.nd.kids≠[]
   · have L:0<c.nd.kids.length:=List.length_pos_iff.2 hsh.2
     obtain ⟨kb,ko,rfl⟩:=K L;have hc:=aC.out (by rw [<-I.out];exact hsh.2);have u:zdp z l root=(z.set root nd0,l++[root],kidA z root 0):=(by unfold zdp;rw [if_pos (by rw [<-I.out];exact hsh)]);rw [<-I.out] at hc;generalize kidA z root 0=kid at hc u;have aN:=(H.out.cell0 (hK.cell1 zag 0 hc rfl));simp only [Nat.add_zero] at aN;have an:((c.nd.pairs.length:Int)==0)=true:=(by rw [beq_iff_eq];omega);have bm:(0:Int)<(c.nd.kids.length:Int):=(by omega);have ho:=C.out.obj.set 2 (.int .i64 (kid:Int));have p:=(Fr.refl (fun b=>b=t) W4).setAt 2 (.int .i64 (kid:Int));have ag:=C.out.setObj p kid (many-1) ho
     have aq:TreeZ (W4.setCell ⟨t,2,none⟩ (.int .i64 (kid:Int))) t z l kid (many-1) (treeF t (.slice (some ⟨nb,no,none⟩) R.length cap) ad R):=⟨_,_,_,ag,P.out,fun b=>Iff.rfl⟩;have aJ:=H_ aq;have M:=H_ p;have aH:=H_ u;have ai:l.length<=1099511627:=(by have:=aB.out;omega);have aL:z.length<=1099511627:=(by omega);have ap:root<z.length:=(by rw [<-P.out,zay];exact aT);clear hsh L hc u ho p ag aq hK K;go_wp2_with (go_at_call 149;refine (zmn _ t z l kid (many-1) _ aJ.out root ap aL ai).mono ?_;rintro e w6 ⟨rfl,F6,aV,aM,aR⟩)
     go_ret2
     have q:=aa.out;rw [aH.out] at q;have bb:=B.out.size;have bc:=H.out.size;have bd:=M.out.size;refine ⟨rfl,_,_,kid,F6,by simpa using aV,q,by simp;exact d2,?_,fun b hb=>?_⟩
     · refine ((B.out.trans H.out fun _ _ s=>s.elim).trans M.out fun b hb e=>?_).trans aM fun b hb e=>?_
       · rcases x.out b (.inl e) with e | e
         · exact e
         omega
       rcases x.out b e with e | e
       · exact e
       omega
     rcases aR b hb with e | e
     · exact x.out b e
     exact .inr (by omega)
   have u:zdp z l root=(z,l,root):=by unfold zdp;rw [if_neg (by rw [<-I.out];exact hsh)]
   have q:=aa.out;rw [u] at q;have aF:=H_ q
   have O:Hid (∀ W,Fr No W4 W->∃ A' fl' a F',TreeZ W t A' fl' a (many-1) F'/\GoodT A' fl' a (delT T key)/\A'.length=A.length/\Fr F w W/\(∀ b,F' b->F b\/w.heap.size<=b)):=H_ fun W hW =>
    ⟨z,l,root,_,⟨_,_,_,C.out.fr0 hW,P.out,fun b=>Iff.rfl⟩,aF.out,d2,(B.out.trans H.out fun _ _ s=>s.elim).trans hW fun _ _ s=>s.elim,x.out⟩
   by_cases hp:c.nd.pairs.length=0
   · have an:((c.nd.pairs.length:Int)==0)=true:=by rw [beq_iff_eq];omega
     have aj:c.nd.kids = []:=Classical.byContradiction fun e=>hsh ⟨hp,e⟩;have L:c.nd.kids.length=0:=(by rw [aj];rfl);rw [L] at y1;clear hsh u q hK K aj;go_wp2_with fail
     go_ret2
     obtain ⟨A',fl',a,F',U,V⟩:=O.out _ (Fr.refl No _);exact ⟨rfl,A',fl',a,F',by simpa using U,V⟩
   have an:((c.nd.pairs.length:Int)==0)=false:=by rw [beq_eq_false_iff_ne];omega
   clear hsh u q hK K;go_wp2_with fail
   go_ret2
   obtain ⟨A',fl',a,F',U,V⟩:=O.out _ (Fr.refl No _);exact ⟨rfl,A',fl',a,F',by simpa using U,V⟩
structure zzbb (TA:zao):Prop where
 del:∀ {w t T F} (key:ByteArray),TA w t T F->Calls Tryz.prog 103 #[.pointer (some ⟨t,0,none⟩),.string key] w fun e w'=>e=.returned (zdb (getT T key))/\∃ F',TA w' t (delT T key) F'/\Fr F w w'/\(∀ b,F' b->F b\/w.heap.size<=b)
theorem zhj:zzbb zye where
 del {w t T F} key h:=by
  obtain ⟨A,fl,root,h,h2,h3,h4⟩:=h;refine (zvn w t A fl root T.length F T key h h2 (by omega) ⟨by omega,by omega⟩).mono ?_;rintro e w' ⟨he,A',fl',root',F',b1,b2,b3,b4,b5⟩;have hsT:Sorted T:=(by obtain ⟨D,hD⟩:=h2;exact hD.sorted)
  have hl:((delT T key).length:Int)=(T.length:Int)-if (getT T key).2 then 1 else 0:=by
   cases hg:getT T key with
   | mk n ok =>
   cases ok with
   | false=>rw [(zpr hg).2];simp
   | true=>have:=zzy key T hsT (by rw [hg]);simp;omega
  have hle:(delT T key).length<=T.length:=List.length_filter_le _ _;exact ⟨he,F',⟨A',fl',root',by rw [hl];exact b1,b2,by omega,by omega⟩,b4,b5⟩
def KeyAt (w:World) (g:Nat) (K:List Gen) (last:Int) (F:Nat->Prop):Prop :=
 ∃ gv Z,KeyRep w g gv Z last/\Z.map (·.1)=K/\∀ b,F b↔keyF g gv Z b
theorem zzaq {w:World} {g:Nat} {gv:Value} {Z:List (Gen×Value)} {last:Int} (h:KeyRep w g gv Z last):∀ b,keyF g gv Z b->b<w.heap.size:=by
 rintro b (rfl | e | ⟨i,p,a,e⟩)
 · exact h.obj.lt
 · exact h.gens.lt b e
 exact (h.puts i p a).lt b e
theorem KeyAt.lt {w:World} {g:Nat} {K:List Gen} {last:Int} {F:Nat->Prop} (h:KeyAt w g K last F):∀ b,F b->b<w.heap.size:=by
 obtain ⟨a,Z,h,_,hF⟩:=h;exact fun b hb=>zzaq h b ((hF b).1 hb)
theorem KeyRep.fr {w w':World} {g:Nat} {gv:Value} {Z:List (Gen×Value)} {last:Int} {S:Nat->Prop} (h:KeyRep w g gv Z last) (hf:Fr S w w') (hn:∀ b,keyF g gv Z b->¬ S b):KeyRep w' g gv Z last :=
 ⟨h.obj.fr hf (hn g (.inl rfl)),h.gens.fr hf fun k hk=>hn k (.inr (.inl hk)),fun i p hp=>(h.puts i p hp).fr hf fun k hk=>hn k (.inr (.inr ⟨i,p,hp,hk⟩)),h.apart,h.apart2,h.own⟩
theorem KeyAt.fr {w w':World} {g:Nat} {K:List Gen} {last:Int} {F S:Nat->Prop} (h:KeyAt w g K last F) (hf:Fr S w w') (hn:∀ b,F b->¬ S b):KeyAt w' g K last F:=by
 obtain ⟨a,Z,h,c,hF⟩:=h;exact ⟨a,Z,h.fr hf fun b hb=>hn b ((hF b).2 hb),c,hF⟩
def putK (K:List Gen) (rev:Int):List Gen :=
 if isOpen K then K.modify (K.length-1) fun x=>{ x with puts:=x.puts++[rev] } else K++[{ create:=rev,cut:=0,puts:=[rev],end_:=0 }]
def Fits (K:List Gen):Prop:=K.length<=1099511627/\∀ x∈K,x.puts.length<=1099511627/\0<=x.cut/\x.cut<=1099511627776
theorem zwk (w:World) (g:Nat) (K:List Gen) (last rev:Int) (F:Nat->Prop) (h:KeyAt w g K last F) (hK:Fits K) :
 Calls Tryz.prog 160 #[.pointer (some ⟨g,0,none⟩),.int .i64 rev] w fun e w'=>e=.returned (.int .i64 0) ∧
  ∃ F',KeyAt w' g (putK K rev) last F'/\Fr F w w'/\(∀ b,F' b->F b\/w.heap.size<=b):=by
 obtain ⟨d,Z,h,rfl,hF⟩:=h;have r:Z.length<=1099511627:=by have:=hK.1;simpa using this
 by_cases ho:isOpen (Z.map (·.1))=true
 · have p:Z.length≠0:=by
    intro p;obtain rfl:=List.eq_nil_of_length_eq_zero p;simp [isOpen] at ho
   obtain ⟨x,pv,c⟩:∃ x pv,Z[Z.length-1]?=some (x,pv):=⟨_,_,List.getElem?_eq_getElem (by omega)⟩;have s:x.puts.length<=1099511627:=(hK.2 x (List.mem_map.2 ⟨_,List.mem_of_getElem? c,rfl⟩)).1;refine (zyt w g d Z last rev x pv h c ho (by omega) (by omega)).mono ?_;rintro e w' ⟨rfl,v',j,k,m⟩;refine ⟨rfl,_,⟨d,_,j,?_,fun b=>Iff.rfl⟩,k.mono fun b _ hb=>(hF b).2 hb,?_⟩
   · unfold putK
     rw [if_pos ho];apply List.ext_getElem?;intro i;have o:Z.length-1<Z.length:=(by omega);by_cases hi:Z.length-1=i
     · subst hi
       have n:Z[Z.length-1]=(x,pv):=(List.getElem?_eq_some_iff.1 c).2;simp [o,n]
     simp [hi]
   rintro b (rfl | e | ⟨i,q,a,e⟩)
   · exact .inl ((hF _).2 (.inl rfl))
   · exact .inl ((hF _).2 (.inr (.inl e)))
   rw [List.getElem?_set] at a
   split at a
   · split at a
     · simp at a
       subst a;rcases m b e with e | e
       · exact .inl ((hF _).2 (.inr (.inr ⟨_,_,c,e⟩)))
       exact .inr e
     cases a
   exact .inl ((hF _).2 (.inr (.inr ⟨_,_,a,e⟩)))
 simp only [Bool.not_eq_true] at ho
 refine (zzaj w g d Z last rev h ho r).mono ?_;rintro e w' ⟨rfl,f,v',j,k,m,l⟩;refine ⟨rfl,_,⟨f,_,j,?_,fun b=>Iff.rfl⟩,k.mono fun b _ hb=>(hF b).2 hb,?_⟩
 · unfold putK
   rw [ho];simp [zcn]
 rintro b (rfl | e | ⟨i,q,a,e⟩)
 · exact .inl ((hF _).2 (.inl rfl))
 · rcases l b e with e | e
   · exact .inl ((hF _).2 (.inr (.inl e)))
   exact .inr e
 rw [List.getElem?_append] at a
 split at a
 · exact .inl ((hF _).2 (.inr (.inr ⟨_,_,a,e⟩)))
 rw [List.getElem?_singleton] at a
 split at a
 · simp at a
   subst a;exact .inr (m b e)
 cases a
theorem KeyAt.setLast {w w':World} {g:Nat} {K:List Gen} {last:Int} {F:Nat->Prop} (h:KeyAt w g K last F) (rev:Int) (hw:w'=w.setCell ⟨g,1,none⟩ (.int .i64 rev)):KeyAt w' g K rev F:=by
 subst hw;obtain ⟨a,Z,h,b,hF⟩:=h;refine ⟨a,Z,⟨h.obj.set 1 _,h.gens.other _ _ h.own,fun i p hp=>(h.puts i p hp).other _ _ fun e=>(h.apart i p hp _ e).1 rfl,h.apart,h.apart2,h.own⟩,b,hF⟩
theorem KeyAt.cells {w:World} {g:Nat} {K:List Gen} {last:Int} {F:Nat->Prop} (h:KeyAt w g K last F):w.cell? ⟨g,1,none⟩=some (.int .i64 last)/\w.frozen? ⟨g,1,none⟩=false/\F g/\g<w.heap.size:=by
 obtain ⟨a,Z,h,b,hF⟩:=h;exact ⟨h.obj.cell 1 rfl,h.obj.free 1,(hF g).2 (.inl rfl),h.obj.lt⟩
theorem zqi (w:World) (g:Nat) (K:List Gen) (last rev:Int) (F:Nat->Prop) (h:KeyAt w g K last F) (hK:Fits K) (h1:1<=rev) (h2:rev<=1099511627776) (h3:last<rev) :
 Calls Tryz.prog 118 #[.pointer (some ⟨g,0,none⟩),.int .i64 rev] w fun e w'=>e=.returned (.int .i64 0) ∧
  ∃ F',KeyAt w' g (putK K rev) rev F'/\Fr F w w'/\(∀ b,F' b->F b\/w.heap.size<=b):=by
 have a:=zwk w g K last rev F h hK;obtain ⟨p,m,f,n⟩:=h.cells;have o:∀ (fn:Fn) (first cap:Array Value) (w:World),(Instr.makeFunc fn first cap).run Tryz.prog w=.ok (.func fn first cap) w:=fun _ _ _ _=>rfl;have q:¬ rev<1:=by omega
 have r:¬ 1099511627776<rev:=by omega
 have s:¬ rev<=last:=by omega
 clear h hK;go_enter Tryz.func118,Tryz.ntmps118
 go_wp2_with (first
  | (go_at_call 160;refine a.mono ?_;clear a;rintro e w1 ⟨rfl,F',c,i,d⟩;obtain ⟨l,j,_,_⟩:=c.cells;have k:=H_ c;clear c)
  | (go_at_call 159;go_in))
 go_ret;refine ⟨rfl,F',k.out.setLast rev rfl,i.setCell (.inl f) _,d⟩
def tombK (K:List Gen) (rev:Int):List Gen:=K.modify (K.length-1) fun x=>{ x with end_:=rev }
theorem zjs (w:World) (g:Nat) (K:List Gen) (last rev:Int) (F:Nat->Prop) (h:KeyAt w g K last F) (hK:Fits K) (ho:isOpen K=true) :
 Calls Tryz.prog 163 #[.pointer (some ⟨g,0,none⟩),.int .i64 rev] w fun e w'=>e=.returned (.int .i64 0)/\KeyAt w' g (tombK K rev) last F/\Fr F w w':=by
 obtain ⟨D,Z,h,rfl,hF⟩:=h;have G:Z.length<=1099511627:=by have:=hK.1;simpa using this
 have t:Z.length≠0:=by
  intro t;obtain rfl:=List.eq_nil_of_length_eq_zero t;simp [isOpen] at ho
 obtain ⟨x,pv,d⟩:∃ x pv,Z[Z.length-1]?=some (x,pv):=⟨_,_,List.getElem?_eq_getElem (by omega)⟩;obtain ⟨a,cap,rfl,z,A,u⟩:=h.gens.shape;obtain ⟨l,go,rfl⟩:=u (by omega);have f:=zke w g l go cap Z last h ho (by omega);have E:=h.gens.cell zan (Z.length-1) 3 d rfl;have B:=h.gens.free (go+(Z.length-1) * 4+3);have o:Z.length-1<Z.length:=by omega
 have C:l<w.heap.size:=h.gens.lt l rfl;have H:=H_ h;clear h;have y:=H_ d;clear d;clear u ho hK t;have v:=H_ hF;clear hF;go_enter Tryz.func163,Tryz.ntmps163;go_wp2_with (go_at_call 178;refine f.mono ?_;clear f;rintro e w' ⟨rfl,rfl⟩);go_ret;have h:=H.out;have d:=y.out;have hF:=v.out;refine ⟨rfl,⟨.slice (some ⟨l,go,none⟩) Z.length cap,Z.set (Z.length-1) ({ x with end_:=rev },pv),?_,?_,?_⟩,(Fr.refl _ w).setCell (p:=⟨l,go+(Z.length-1) * 4+3,none⟩) (.inl ((hF l).2 (.inr (.inl rfl)))) _⟩
 · constructor
   · exact h.obj.other _ _ fun e=>h.own (by rw [e];rfl)
   · simpa using h.gens.set zan _ 3 (by omega) (x,pv) ({ x with end_:=rev },pv) _ d rfl
   · intro i q c
     rw [List.getElem?_set] at c
     split at c
     · simp at c
       subst c;exact (h.puts _ _ d).other _ _ fun e=>(h.apart _ _ d _ e).2 rfl
     exact (h.puts _ _ c).other _ _ fun e=>(h.apart _ _ c _ e).2 rfl
   · intro i q c b m
     rw [List.getElem?_set] at c
     split at c
     · simp at c
       subst c;exact h.apart _ _ d b m
     exact h.apart _ _ c b m
   · intro i j q r c n b m k
     rw [List.getElem?_set] at c n
     split at c <;> split at n
     · omega
     · rename_i e1 e2
       simp at c;subst c;exact e1▸h.apart2 _ _ _ _ d n b m k
     · rename_i e1 e2
       simp at n;subst n;exact e2▸h.apart2 _ _ _ _ c d b m k
     exact h.apart2 _ _ _ _ c n b m k
   exact h.own
 · unfold tombK
   apply List.ext_getElem?;intro i;by_cases hi:Z.length-1=i
   · subst hi
     have s:Z[Z.length-1]=(x,pv):=(List.getElem?_eq_some_iff.1 d).2;simp [o,s]
   simp [hi]
 intro b
 rw [hF]
 constructor
 · rintro (rfl | e | ⟨i,q,c,e⟩)
   · exact .inl rfl
   · exact .inr (.inl e)
   by_cases hi:Z.length-1=i
   · subst hi
     rw [d] at c;cases c
     exact .inr (.inr ⟨Z.length-1,({ x with end_:=rev },pv),by simp [o],e⟩)
   exact .inr (.inr ⟨i,q,by simp [hi,c],e⟩)
 rintro (rfl | e | ⟨i,q,c,e⟩)
 · exact .inl rfl
 · exact .inr (.inl e)
 rw [List.getElem?_set] at c
 split at c
 · simp at c
   subst c;exact .inr (.inr ⟨_,_,d,e⟩)
 exact .inr (.inr ⟨_,_,c,e⟩)
theorem zlj (w:World) (g:Nat) (K:List Gen) (last rev:Int) (F:Nat->Prop) (h:KeyAt w g K last F) (hK:Fits K) (ho:isOpen K=true) (h1:1<=rev) (h2:rev<=1099511627776) (h3:last<rev) :
 Calls Tryz.prog 123 #[.pointer (some ⟨g,0,none⟩),.int .i64 rev] w fun e w'=>e=.returned (.int .i64 0)/\KeyAt w' g (tombK K rev) rev F/\Fr F w w':=by
 have a:=zjs w g K last rev F h hK ho;obtain ⟨n,k,c,l⟩:=h.cells;have m:∀ (fn:Fn) (first cap:Array Value) (w:World),(Instr.makeFunc fn first cap).run Tryz.prog w=.ok (.func fn first cap) w:=fun _ _ _ _=>rfl;have o:¬ rev<1:=by omega
 have p:¬ 1099511627776<rev:=by omega
 have q:¬ rev<=last:=by omega
 clear h hK ho;go_enter Tryz.func123,Tryz.ntmps123
 go_wp2_with (first
  | (go_at_call 163;refine a.mono ?_;clear a;rintro e w1 ⟨rfl,b,d⟩;obtain ⟨j,f,_,_⟩:=b.cells;have i:=H_ b;clear b)
  | (go_at_call 159;go_in))
 go_ret;exact ⟨rfl,i.out.setLast rev rfl,d.setCell (.inl c) _⟩
theorem zia (w:World):Calls Tryz.prog 117 #[] w fun e w'=>∃ g,e=.returned (.pointer (some ⟨g,0,none⟩))/\∃ F,KeyAt w' g [] 0 F/\Fr No w w'/\(∀ b,F b->w.heap.size<=b):=by
 go_enter Tryz.func117,Tryz.ntmps117;go_wp2;go_ret;refine ⟨_,rfl,keyF w.heap.size (.slice none 0 0) [],⟨.slice none 0 0,[],⟨Has.new w _ _,SlF.nil _ _ _ _,by simp,by simp,by simp,by simp [Value.ownBlock]⟩,rfl,fun b=>Iff.rfl⟩,(Fr.refl _ w).alloc _,?_⟩;rintro b (rfl | e | ⟨i,q,a,e⟩)
 · omega
 · simp [Value.ownBlock] at e
 simp at a
def upTo (l:List Int) (rev:Int):Nat:=l.findIdx fun p=>decide (rev<p)
def idxInt (l:List Int) (rev:Int):Int:=if upTo l rev=l.length then -1 else (upTo l rev:Int)
theorem zlw (w:World) (v:Value) (l:List Int) (rev:Int) (tb:Nat) (hv:SlF w 3 1 int1 v l) (hl:l.length<=1099511627776) (ht:w.cell? ⟨tb,0,none⟩=some (.int .i64 rev)) :
 Calls Tryz.prog 168 #[v,.func (.func 169) #[] #[.pointer (some ⟨tb,0,none⟩)]] w fun e w'=>e=.returned (.int .i64 (idxInt l rev))/\w=w':=by
 obtain ⟨a,cap,rfl,t,u,q⟩:=hv.shape;have s:=H_ hv;clear hv;have r:=H_ q;clear q;go_enter Tryz.func168,Tryz.ntmps168;go_wp2
 go_loopg [8] l.length (fun g s8 wr=>∃ i:Nat,s8=.int .i64 i/\i+g=l.length/\Hid (∀ j,j<i->¬ rev<l[j]?.getD 0)/\w=wr)
 case atStart=>exact ⟨0,rfl,by simp,H_ (by simp),rfl⟩
 case round =>
  obtain ⟨i,rfl,A,d,rfl⟩:=hrel
  cases gk with
  | zero =>
    have k:¬ (i:Int)<(l.length:Int):=(by omega);go_wp2;go_ret;refine ⟨?_,rfl⟩
    have o:upTo l rev=l.length:=by
     unfold upTo;rw [List.findIdx_eq_length];intro x b;obtain ⟨j,c,rfl⟩:=List.getElem_of_mem b;have:=d.out j (by omega);simpa [c] using this
    unfold idxInt;rw [if_pos o]
    rfl
  | succ g =>
    obtain ⟨z,go,rfl⟩:=r.out (by omega);have b:l[i]?=some (l[i]'(by omega)):=List.getElem?_eq_getElem (by omega);have y:=s.out.cell1 zfa i b rfl;have k:(i:Int)<(l.length:Int):=(by omega);by_cases hp:rev<l[i]'(by omega)
    · have n:decide (rev<l[i]'(by omega))=true:=by simpa using hp
      have p:=H_ b;have f:=H_ hp;clear b hp;go_wp2;go_ret;refine ⟨?_,rfl⟩
      have o:upTo l rev=i:=by
       unfold upTo;rw [List.findIdx_eq (by omega)];refine ⟨by simpa using f.out,fun j c=>?_⟩;have:=d.out j c;have m:j<l.length:=(by omega);simpa [m] using this
      unfold idxInt;rw [if_neg (by omega),o]
      rfl
    have n:decide (rev<l[i]'(by omega))=false:=by simpa using hp
    have p:=H_ b;have f:=H_ hp;clear b hp;go_wp2;go_roundg g
    case rel =>
     refine ⟨i+1,by go_num,by omega,H_ fun j c=>?_,rfl⟩;by_cases hji:j=i
     · subst hji
       rw [p.out];exact f.out
     exact d.out j (by omega)
    case measure=>omega
theorem zep (l:List Int) (rev:Int):upTo l rev<=l.length:=List.findIdx_le_length
theorem zmg (w:World) (x:Gen) (pv:Value) (rev:Int) (hv:SlF w 3 1 int1 pv x.puts) (hl:x.puts.length<=1099511627776) :
 Calls Tryz.prog 147 #[.agg #[.int .i64 x.create,.int .i64 x.cut,pv,.int .i64 x.end_],.int .i64 rev] w fun e w'=>e=.returned (.int .i64 (upTo x.puts rev))/\Fr No w w':=by
 have l:∀ (fn:Fn) (first cap:Array Value) (w:World),(Instr.makeFunc fn first cap).run Tryz.prog w=.ok (.func fn first cap) w:=fun _ _ _ _=>rfl;obtain ⟨a,cap,rfl,i,j,g⟩:=hv.shape;have b:=fun W hw ht=>zlw W (.slice a x.puts.length cap) x.puts rev (w.heap.size+1) hw hl ht;have k:=zep x.puts rev;have d:=H_ hv;clear hv g;by_cases hu:upTo x.puts rev=x.puts.length
 · have c:idxInt x.puts rev = -1:=by unfold idxInt;rw [if_pos hu]
   rw [c] at b;have f:=H_ hu;clear hu c;go_enter Tryz.func147,Tryz.ntmps147;go_wp2_with (go_at_call 168;refine (b _ (by exact (d.out.alloc _).alloc _) (by simp [go_sem])).mono ?_;rintro e m ⟨rfl,rfl⟩);go_ret;exact ⟨by rw [f.out];rfl,((Fr.refl _ w).alloc _).alloc _⟩
 have c:idxInt x.puts rev=(upTo x.puts rev:Int):=by unfold idxInt;rw [if_neg hu]
 rw [c] at b;generalize upTo x.puts rev=n at *;clear c hu;go_enter Tryz.func147,Tryz.ntmps147;go_wp2_with (go_at_call 168;refine (b _ (by exact (d.out.alloc _).alloc _) (by simp [go_sem])).mono ?_;rintro e m ⟨rfl,rfl⟩);go_ret;exact ⟨rfl,((Fr.refl _ w).alloc _).alloc _⟩
end Go.Proofs.YthljnnjpmdgkoaaGreat