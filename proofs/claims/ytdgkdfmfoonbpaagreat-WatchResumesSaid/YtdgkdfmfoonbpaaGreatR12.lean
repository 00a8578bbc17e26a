/- Own lemmas. -/
import Derived.Test.YtdgkdfmfoonbpaaGreatR10
import Derived.Test.YtdgkdfmfoonbpaaGreatR11
import Derived.Test.YtdgkdfmfoonbpaaGreatR05
namespace Go.Proofs.YtdgkdfmfoonbpaaGreat
open Go Go.Proofs Go.RowKit
set_option maxRecDepth 100000
theorem zmf {T:Pairs} {key:ByteArray} {n:Int} (h:getT T key=(n,false)):n=0/\delT T key=T:=by
 unfold getT at h
 split at h
 · simp at h
 rename_i hf
 refine ⟨by simp at h;exact h.symm,?_⟩;unfold delT;refine List.filter_eq_self.2 fun p hp=>?_;have:=List.find?_eq_none.1 hf p hp;simpa using this
def DelEnd (w:World) (t:Nat) (A:Arr) (many:Int) (F:Nat->Prop) (T:Pairs) (key:ByteArray) (e:Ending) (w':World):Prop :=
 e=.returned (zcg (getT T key))/\∃ A' fl' root' F',TreeZ w' t A' fl' root' (many-if (getT T key).2 then 1 else 0) F'/\GoodT A' fl' root' (delT T key)/\A'.length=A.length/\Fr F w w'/\(∀ b,F' b->F b\/w.heap.size<=b)
set_option maxHeartbeats 4000000 in
theorem zri (w:World) (t:Nat) (A:Arr) (fl:List Nat) (root:Nat) (many:Int) (F:Nat->Prop) (T:Pairs) (key:ByteArray) (h:TreeZ w t A fl root many F) (hg:GoodT A fl root T) (hA:A.length<=109951162) (hm:0<=many/\many<=1000000) :
 Calls Tryz.prog 81 #[.pointer (some ⟨t,0,none⟩),.string key] w (DelEnd w t A many F T key):=by
 have f:=zju w t A fl root many F T key h hg hA;have HZ:=H_ h;unfold DelEnd
 cases hgt:getT T key with
 | mk n ok =>
 rw [hgt] at f;unfold zcg at f ⊢
 cases ok with
 | false =>
   obtain ⟨hn,hd⟩:=zmf hgt;subst hn;rw [hd];have HG:=H_ hg;clear hg h hgt hd;go_enter Tryz.func81,Tryz.ntmps81;go_wp2_with (go_at_call 105;refine f.mono ?_;clear f;rintro e w1 ⟨rfl,m⟩)
   go_ret2
   exact ⟨rfl,A,fl,root,F,by simpa using HZ.out.fr0 m,HG.out,rfl,m.mono fun _ _ s=>s.elim,fun b hb=>.inl hb⟩
 | true =>
   obtain ⟨g,d1,d2,d3,d4,d5,d6,d7⟩:=zwq hg key (by rw [hgt]);have z:=fun (W:World) (hz:TreeZ W t A fl root many F)=>zlk W t A fl root many F hz root key g d1 hA;generalize delA g A fl root key=r at z d2 d4 d5 d6 d7;obtain ⟨B,l⟩:=r;dsimp only at z d2 d4 d5 d6 d7;obtain ⟨nv,fv,Z,hR,hZ,hF⟩:=h;have c2:=hR.obj.cell 2 rfl;have aC:=H_ d5;have aD:=H_ d6;have ab:=H_ d7;clear d1 d5 d6 d7 hR hZ hF hg hgt;go_enter Tryz.func81,Tryz.ntmps81
   go_upto_region 5 with (first
    | (go_at_call 105;refine f.mono ?_;clear f;rintro e w1 ⟨rfl,m⟩;replace c2:=m.cell0 c2)
    | (go_at_call 106;refine (z _ (HZ.out.fr0 m)).mono ?_;clear z;rintro e w2 ⟨⟨v,rfl⟩,F1,aV,ai,am⟩))
   obtain ⟨bu,ae,S,o,K,af⟩:=aV;obtain ⟨c,a0,Y⟩:=zbi K (i:=root) (by omega);have aU:root<S.length:=(List.getElem?_eq_some_iff.1 a0).1;have bt:S.length<=109951162:=(by rw [<-zas,K];omega);obtain ⟨nb,no,cap,rfl,b7⟩:=o.headLen (by omega);rw [<-Y] at d4;have x3:=o.obj.cell 3 rfl;have aX:=o.obj.free 3;have aQ:t<w2.heap.size:=o.obj.lt;have ho:=o.obj.set 3 (.int .i64 (many-1));have q:Fr (fun b=>b=t) w2 (w2.setCell ⟨t,3,none⟩ (.int .i64 (many-1))):=(Fr.refl _ w2).setAt _ _;have ag:=o.setObj q root (many-1) ho;have d:=H_ ag;have ad:=H_ q;have aE:=H_ af;have Q:=H_ K;have R:=H_ a0;have J:=H_ Y;have aH:=H_ am;have aF:Hid (Fr F w w2):=H_ ((m.mono fun _ _ s=>s.elim).trans ai fun b _ e=>e)
   have aJ:Hid (w.heap.size<=w1.heap.size):=H_ m.size;have aR:IntKind.i64.wrap (many-1)=many-1:=(by rw [IntKind.wrap_i64];omega);clear o K af a0 Y am ai q ag ho m c2;go_upto_region 6 with fail;generalize w2.setCell ⟨t,3,none⟩ (.int .i64 (many-1))=H at d ad ⊢
   clear aQ x3 aX aR;obtain ⟨a1,a2,a3,a4⟩:=d.out.look root c R.out;have c0:=d.out.obj.cell 0 rfl;have c2:=d.out.obj.cell 2 rfl;have aL:=d.out.obj.free 2;have hP:=d.out.pairs root c R.out;have hK:=d.out.kids root c R.out;obtain ⟨pa,k,ap,br,bs,aT⟩:=hP.shape;obtain ⟨ka,j,al,bo,bp,L⟩:=hK.shape;rw [ap] at a1;rw [al] at a2 hK;have bm:(root:Int)<(S.length:Int):=(by omega);have b9:t<H.heap.size:=d.out.obj.lt;have bb:nb<H.heap.size:=d.out.nodes.lt nb rfl
   have G:∀ b,treeF t (.slice (some ⟨nb,no,none⟩) S.length cap) ae S b->F b\/w.heap.size<=b:=fun b hb=>by
    rcases aH.out b ((aE.out b).2 hb) with e | e
    · exact .inl e
    exact .inr (by have:=aJ.out;omega)
   have O:Fr F w H:=aF.out.trans ad.out fun b hb e=>by
    rcases G b (.inl e) with e | e
    · exact e
    omega
   have y:=H_ G;have C:=H_ O;clear G O hP ap al aT;have aP:c.nd.pairs.length<=9:=d4
   go_region
   have E:=((Fr.refl No H).alloc (.cells #[.slice pa c.nd.pairs.length k,.slice ka c.nd.kids.length j] 194)).drew;have U:=zae H (.cells #[.slice pa c.nd.pairs.length k,.slice ka c.nd.kids.length j] 194) _ rfl;have y0:(H.alloc (.cells #[.slice pa c.nd.pairs.length k,.slice ka c.nd.kids.length j] 194)).drew.cell? ⟨H.heap.size,0,none⟩=some (.slice pa c.nd.pairs.length k):=((Fr.refl No _).drew).cell0 (by unfold World.cell?;dsimp only;rw [U];rfl);have y1:(H.alloc (.cells #[.slice pa c.nd.pairs.length k,.slice ka c.nd.kids.length j] 194)).drew.cell? ⟨H.heap.size,1,none⟩=some (.slice ka c.nd.kids.length j):=((Fr.refl No _).drew).cell0 (by unfold World.cell?;dsimp only;rw [U];rfl);generalize (H.alloc (.cells #[.slice pa c.nd.pairs.length k,.slice ka c.nd.kids.length j] 194)).drew=W4 at E y0 y1 ⊢
   have D:=H_ (d.out.fr0 E);have I:=H_ E
   replace c2:=E.cell0 c2
   have b3:=D.out.obj.free 2;have ba:t<W4.heap.size:=D.out.obj.lt;clear c0 a1 a2 a3 a4 U aL E;by_cases hsh:c.nd.pairs.length=0/\c.nd.kids≠[]
   · have M:0<c.nd.kids.length:=List.length_pos_iff.2 hsh.2
     obtain ⟨kb,ko,rfl⟩:=L M;have hc:=aD.out (by rw [<-J.out];exact hsh.2);have x:zcn B l root=(B.set root nd0,l++[root],kidA B root 0):=(by unfold zcn;rw [if_pos (by rw [<-J.out];exact hsh)]);rw [<-J.out] at hc;generalize kidA B root 0=kid at hc x;have aO:=(I.out.cell0 (hK.cell1 zag 0 hc rfl));simp only [Nat.add_zero] at aO;have ao:((c.nd.pairs.length:Int)==0)=true:=(by rw [beq_iff_eq];omega);have bn:(0:Int)<(c.nd.kids.length:Int):=(by omega);have ho:=D.out.obj.set 2 (.int .i64 (kid:Int));have q:=(Fr.refl (fun b=>b=t) W4).setAt 2 (.int .i64 (kid:Int));have ah:=D.out.setObj q kid (many-1) ho
     have ar:TreeZ (W4.setCell ⟨t,2,none⟩ (.int .i64 (kid:Int))) t B l kid (many-1) (treeF t (.slice (some ⟨nb,no,none⟩) S.length cap) ae S):=⟨_,_,_,ah,Q.out,fun b=>Iff.rfl⟩;have aK:=H_ ar;have N:=H_ q;have aI:=H_ x;have aj:l.length<=1099511627:=(by have:=aC.out;omega);have aM:B.length<=1099511627:=(by omega);have aq:root<B.length:=(by rw [<-Q.out,zas];exact aU);clear hsh M hc x ho q ah ar hK L;go_wp2_with (go_at_call 107;refine (zjr _ t B l kid (many-1) _ aK.out root aq aM aj).mono ?_;rintro e w6 ⟨rfl,F6,aW,aN,aS⟩)
     go_ret2
     have u:=ab.out;rw [aI.out] at u;have bc:=C.out.size;have bd:=I.out.size;have be:=N.out.size;refine ⟨rfl,_,_,kid,F6,by simpa using aW,u,by simp;exact d2,?_,fun b hb=>?_⟩
     · refine ((C.out.trans I.out fun _ _ s=>s.elim).trans N.out fun b hb e=>?_).trans aN fun b hb e=>?_
       · rcases y.out b (.inl e) with e | e
         · exact e
         omega
       rcases y.out b e with e | e
       · exact e
       omega
     rcases aS b hb with e | e
     · exact y.out b e
     exact .inr (by omega)
   have x:zcn B l root=(B,l,root):=by unfold zcn;rw [if_neg (by rw [<-J.out];exact hsh)]
   have u:=ab.out;rw [x] at u;have aG:=H_ u
   have P:Hid (∀ W,Fr No W4 W->∃ A' fl' a F',TreeZ W t A' fl' a (many-1) F'/\GoodT A' fl' a (delT T key)/\A'.length=A.length/\Fr F w W/\(∀ b,F' b->F b\/w.heap.size<=b)):=H_ fun W hW =>
    ⟨B,l,root,_,⟨_,_,_,D.out.fr0 hW,Q.out,fun b=>Iff.rfl⟩,aG.out,d2,(C.out.trans I.out fun _ _ s=>s.elim).trans hW fun _ _ s=>s.elim,y.out⟩
   by_cases hp:c.nd.pairs.length=0
   · have ao:((c.nd.pairs.length:Int)==0)=true:=by rw [beq_iff_eq];omega
     have ak:c.nd.kids = []:=Classical.byContradiction fun e=>hsh ⟨hp,e⟩;have M:c.nd.kids.length=0:=(by rw [ak];rfl);rw [M] at y1;clear hsh x u hK L ak;go_wp2_with fail
     go_ret2
     obtain ⟨A',fl',a,F',V,X⟩:=P.out _ (Fr.refl No _);exact ⟨rfl,A',fl',a,F',by simpa using V,X⟩
   have ao:((c.nd.pairs.length:Int)==0)=false:=by rw [beq_eq_false_iff_ne];omega
   clear hsh x u hK L;go_wp2_with fail
   go_ret2
   obtain ⟨A',fl',a,F',V,X⟩:=P.out _ (Fr.refl No _);exact ⟨rfl,A',fl',a,F',by simpa using V,X⟩
structure zww (TA:zai):Prop where
 del:∀ {w t T F} (key:ByteArray),TA w t T F->Calls Tryz.prog 81 #[.pointer (some ⟨t,0,none⟩),.string key] w fun e w'=>e=.returned (zcg (getT T key))/\∃ F',TA w' t (delT T key) F'/\Fr F w w'/\(∀ b,F' b->F b\/w.heap.size<=b)
theorem zua:zww ztq where
 del {w t T F} key h:=by
  obtain ⟨A,fl,root,h,h2,h3,h4⟩:=h;refine (zri w t A fl root T.length F T key h h2 (by omega) ⟨by omega,by omega⟩).mono ?_;rintro e w' ⟨he,A',fl',root',F',b1,b2,b3,b4,b5⟩;have hsT:Sorted T:=(by obtain ⟨D,hD⟩:=h2;exact hD.sorted)
  have hl:((delT T key).length:Int)=(T.length:Int)-if (getT T key).2 then 1 else 0:=by
   cases hg:getT T key with
   | mk n ok =>
   cases ok with
   | false=>rw [(zmf hg).2];simp
   | true=>have:=zvk key T hsT (by rw [hg]);simp;omega
  have hle:(delT T key).length<=T.length:=List.length_filter_le _ _;exact ⟨he,F',⟨A',fl',root',by rw [hl];exact b1,b2,by omega,by omega⟩,b4,b5⟩
def KeyAt (w:World) (g:Nat) (K:List Gen) (last:Int) (F:Nat->Prop):Prop :=
 ∃ gv Z,KeyRep w g gv Z last/\Z.map (·.1)=K/\∀ b,F b↔keyF g gv Z b
theorem zwi {w:World} {g:Nat} {gv:Value} {Z:List (Gen×Value)} {last:Int} (h:KeyRep w g gv Z last):∀ b,keyF g gv Z b->b<w.heap.size:=by
 rintro b (rfl | e | ⟨i,p,a,e⟩)
 · exact h.obj.lt
 · exact h.gens.lt b e
 exact (h.puts i p a).lt b e
theorem KeyAt.lt {w:World} {g:Nat} {K:List Gen} {last:Int} {F:Nat->Prop} (h:KeyAt w g K last F):∀ b,F b->b<w.heap.size:=by
 obtain ⟨a,Z,h,_,hF⟩:=h;exact fun b hb=>zwi h b ((hF b).1 hb)
theorem KeyRep.fr {w w':World} {g:Nat} {gv:Value} {Z:List (Gen×Value)} {last:Int} {S:Nat->Prop} (h:KeyRep w g gv Z last) (hf:Fr S w w') (hn:∀ b,keyF g gv Z b->¬ S b):KeyRep w' g gv Z last :=
 ⟨h.obj.fr hf (hn g (.inl rfl)),h.gens.fr hf fun k hk=>hn k (.inr (.inl hk)),fun i p hp=>(h.puts i p hp).fr hf fun k hk=>hn k (.inr (.inr ⟨i,p,hp,hk⟩)),h.apart,h.apart2,h.own⟩
theorem KeyAt.fr {w w':World} {g:Nat} {K:List Gen} {last:Int} {F S:Nat->Prop} (h:KeyAt w g K last F) (hf:Fr S w w') (hn:∀ b,F b->¬ S b):KeyAt w' g K last F:=by
 obtain ⟨a,Z,h,c,hF⟩:=h;exact ⟨a,Z,h.fr hf fun b hb=>hn b ((hF b).2 hb),c,hF⟩
def putK (K:List Gen) (rev:Int):List Gen :=
 if isOpen K then K.modify (K.length-1) fun x=>{ x with puts:=x.puts++[rev] } else K++[{ create:=rev,cut:=0,puts:=[rev],end_:=0 }]
def Fits (K:List Gen):Prop:=K.length<=1099511627/\∀ x∈K,x.puts.length<=1099511627/\0<=x.cut/\x.cut<=1099511627776
theorem zsh (w:World) (g:Nat) (K:List Gen) (last rev:Int) (F:Nat->Prop) (h:KeyAt w g K last F) (hK:Fits K) :
 Calls Tryz.prog 159 #[.pointer (some ⟨g,0,none⟩),.int .i64 rev] w fun e w'=>e=.returned (.int .i64 0) ∧
  ∃ F',KeyAt w' g (putK K rev) last F'/\Fr F w w'/\(∀ b,F' b->F b\/w.heap.size<=b):=by
 obtain ⟨d,Z,h,rfl,hF⟩:=h;have s:Z.length<=1099511627:=by have:=hK.1;simpa using this
 by_cases ho:isOpen (Z.map (·.1))=true
 · have r:Z.length≠0:=by
    intro r;obtain rfl:=List.eq_nil_of_length_eq_zero r;simp [isOpen] at ho
   obtain ⟨x,pv,c⟩:∃ x pv,Z[Z.length-1]?=some (x,pv):=⟨_,_,List.getElem?_eq_getElem (by omega)⟩;have t:x.puts.length<=1099511627:=(hK.2 x (List.mem_map.2 ⟨_,List.mem_of_getElem? c,rfl⟩)).1;refine (zui w g d Z last rev x pv h c ho (by omega) (by omega)).mono ?_;rintro e w' ⟨rfl,v',j,k,m⟩;refine ⟨rfl,_,⟨d,_,j,?_,fun b=>Iff.rfl⟩,k.mono fun b _ hb=>(hF b).2 hb,?_⟩
   · unfold putK
     rw [if_pos ho];apply List.ext_getElem?;intro i;have o:Z.length-1<Z.length:=(by omega);by_cases hi:Z.length-1=i
     · subst hi
       have n:Z[Z.length-1]=(x,pv):=(List.getElem?_eq_some_iff.1 c).2;simp [o,n]
     simp [hi]
   rintro b (rfl | e | ⟨i,q,a,e⟩)
   · exact .inl ((hF _).2 (.inl rfl))
   · exact .inl ((hF _).2 (.inr (.inl e)))
   rw [List.getElem?_set] at a
   split at a
   · split at a
     · simp at a
       subst a;rcases m b e with e | e
       · exact .inl ((hF _).2 (.inr (.inr ⟨_,_,c,e⟩)))
       exact .inr e
     cases a
   exact .inl ((hF _).2 (.inr (.inr ⟨_,_,a,e⟩)))
 simp only [Bool.not_eq_true] at ho
 refine (zwb w g d Z last rev h ho s).mono ?_;rintro e w' ⟨rfl,f,v',j,k,m,l⟩;refine ⟨rfl,_,⟨f,_,j,?_,fun b=>Iff.rfl⟩,k.mono fun b _ hb=>(hF b).2 hb,?_⟩
 · unfold putK
   rw [ho];simp [zbw]
 rintro b (rfl | e | ⟨i,q,a,e⟩)
 · exact .inl ((hF _).2 (.inl rfl))
 · rcases l b e with e | e
   · exact .inl ((hF _).2 (.inr (.inl e)))
   exact .inr e
 rw [List.getElem?_append] at a
 split at a
 · exact .inl ((hF _).2 (.inr (.inr ⟨_,_,a,e⟩)))
 rw [List.getElem?_singleton] at a
 split at a
 · simp at a
   subst a;exact .inr (m b e)
 cases a
theorem KeyAt.setLast {w w':World} {g:Nat} {K:List Gen} {last:Int} {F:Nat->Prop} (h:KeyAt w g K last F) (rev:Int) (hw:w'=w.setCell ⟨g,1,none⟩ (.int .i64 rev)):KeyAt w' g K rev F:=by
 subst hw;obtain ⟨a,Z,h,b,hF⟩:=h;refine ⟨a,Z,⟨h.obj.set 1 _,h.gens.other _ _ h.own,fun i p hp=>(h.puts i p hp).other _ _ fun e=>(h.apart i p hp _ e).1 rfl,h.apart,h.apart2,h.own⟩,b,hF⟩
theorem KeyAt.cells {w:World} {g:Nat} {K:List Gen} {last:Int} {F:Nat->Prop} (h:KeyAt w g K last F):w.cell? ⟨g,1,none⟩=some (.int .i64 last)/\w.frozen? ⟨g,1,none⟩=false/\F g/\g<w.heap.size:=by
 obtain ⟨a,Z,h,b,hF⟩:=h;exact ⟨h.obj.cell 1 rfl,h.obj.free 1,(hF g).2 (.inl rfl),h.obj.lt⟩
theorem ztv (w:World) (g:Nat) (K:List Gen) (last rev:Int) (F:Nat->Prop) (h:KeyAt w g K last F) (hK:Fits K) (h1:1<=rev) (h2:rev<=1099511627776) (h3:last<rev) :
 Calls Tryz.prog 141 #[.pointer (some ⟨g,0,none⟩),.int .i64 rev] w fun e w'=>e=.returned (.int .i64 0) ∧
  ∃ F',KeyAt w' g (putK K rev) rev F'/\Fr F w w'/\(∀ b,F' b->F b\/w.heap.size<=b):=by
 have a:=zsh w g K last rev F h hK;obtain ⟨q,m,f,n⟩:=h.cells;have o:∀ (fn:Fn) (first cap:Array Value) (w:World),(Instr.makeFunc fn first cap).run Tryz.prog w=.ok (.func fn first cap) w:=fun _ _ _ _=>rfl;have r:¬ rev<1:=by omega
 have s:¬ 1099511627776<rev:=by omega
 have t:¬ rev<=last:=by omega
 clear h hK;go_enter Tryz.func141,Tryz.ntmps141
 go_wp2_with (first
  | (go_at_call 159;refine a.mono ?_;clear a;rintro e w1 ⟨rfl,F',c,i,d⟩;obtain ⟨l,j,_,_⟩:=c.cells;have k:=H_ c;clear c)
  | (go_at_call 142;go_in))
 go_ret;refine ⟨rfl,F',k.out.setLast rev rfl,i.setCell (.inl f) _,d⟩
def tombK (K:List Gen) (rev:Int):List Gen:=K.modify (K.length-1) fun x=>{ x with end_:=rev }
theorem zht (w:World) (g:Nat) (K:List Gen) (last rev:Int) (F:Nat->Prop) (h:KeyAt w g K last F) (hK:Fits K) (ho:isOpen K=true) :
 Calls Tryz.prog 143 #[.pointer (some ⟨g,0,none⟩),.int .i64 rev] w fun e w'=>e=.returned (.int .i64 0)/\KeyAt w' g (tombK K rev) last F/\Fr F w w':=by
 obtain ⟨D,Z,h,rfl,hF⟩:=h;have G:Z.length<=1099511627:=by have:=hK.1;simpa using this
 have t:Z.length≠0:=by
  intro t;obtain rfl:=List.eq_nil_of_length_eq_zero t;simp [isOpen] at ho
 obtain ⟨x,pv,d⟩:∃ x pv,Z[Z.length-1]?=some (x,pv):=⟨_,_,List.getElem?_eq_getElem (by omega)⟩;obtain ⟨a,cap,rfl,z,A,u⟩:=h.gens.shape;obtain ⟨l,go,rfl⟩:=u (by omega);have f:=zib w g l go cap Z last h ho (by omega);have E:=h.gens.cell zaj (Z.length-1) 3 d rfl;have B:=h.gens.free (go+(Z.length-1) * 4+3);have o:Z.length-1<Z.length:=by omega
 have C:l<w.heap.size:=h.gens.lt l rfl;have H:=H_ h;clear h;have y:=H_ d;clear d;clear u ho hK t;have v:=H_ hF;clear hF;go_enter Tryz.func143,Tryz.ntmps143;go_wp2_with (go_at_call 160;refine f.mono ?_;clear f;rintro e w' ⟨rfl,rfl⟩);go_ret;have h:=H.out;have d:=y.out;have hF:=v.out;refine ⟨rfl,⟨.slice (some ⟨l,go,none⟩) Z.length cap,Z.set (Z.length-1) ({ x with end_:=rev },pv),?_,?_,?_⟩,(Fr.refl _ w).setCell (p:=⟨l,go+(Z.length-1) * 4+3,none⟩) (.inl ((hF l).2 (.inr (.inl rfl)))) _⟩
 · constructor
   · exact h.obj.other _ _ fun e=>h.own (by rw [e];rfl)
   · simpa using h.gens.set zaj _ 3 (by omega) (x,pv) ({ x with end_:=rev },pv) _ d rfl
   · intro i q c
     rw [List.getElem?_set] at c
     split at c
     · simp at c
       subst c;exact (h.puts _ _ d).other _ _ fun e=>(h.apart _ _ d _ e).2 rfl
     exact (h.puts _ _ c).other _ _ fun e=>(h.apart _ _ c _ e).2 rfl
   · intro i q c b m
     rw [List.getElem?_set] at c
     split at c
     · simp at c
       subst c;exact h.apart _ _ d b m
     exact h.apart _ _ c b m
   · intro i j q r c n b m k
     rw [List.getElem?_set] at c n
     split at c <;> split at n
     · omega
     · rename_i e1 e2
       simp at c;subst c;exact e1▸h.apart2 _ _ _ _ d n b m k
     · rename_i e1 e2
       simp at n;subst n;exact e2▸h.apart2 _ _ _ _ c d b m k
     exact h.apart2 _ _ _ _ c n b m k
   exact h.own
 · unfold tombK
   apply List.ext_getElem?;intro i;by_cases hi:Z.length-1=i
   · subst hi
     have s:Z[Z.length-1]=(x,pv):=(List.getElem?_eq_some_iff.1 d).2;simp [o,s]
   simp [hi]
 intro b
 rw [hF]
 constructor
 · rintro (rfl | e | ⟨i,q,c,e⟩)
   · exact .inl rfl
   · exact .inr (.inl e)
   by_cases hi:Z.length-1=i
   · subst hi
     rw [d] at c;cases c
     exact .inr (.inr ⟨Z.length-1,({ x with end_:=rev },pv),by simp [o],e⟩)
   exact .inr (.inr ⟨i,q,by simp [hi,c],e⟩)
 rintro (rfl | e | ⟨i,q,c,e⟩)
 · exact .inl rfl
 · exact .inr (.inl e)
 rw [List.getElem?_set] at c
 split at c
 · simp at c
   subst c;exact .inr (.inr ⟨_,_,d,e⟩)
 exact .inr (.inr ⟨_,_,c,e⟩)
theorem ziu (w:World) (g:Nat) (K:List Gen) (last rev:Int) (F:Nat->Prop) (h:KeyAt w g K last F) (hK:Fits K) (ho:isOpen K=true) (h1:1<=rev) (h2:rev<=1099511627776) (h3:last<rev) :
 Calls Tryz.prog 110 #[.pointer (some ⟨g,0,none⟩),.int .i64 rev] w fun e w'=>e=.returned (.int .i64 0)/\KeyAt w' g (tombK K rev) rev F/\Fr F w w':=by
 have a:=zht w g K last rev F h hK ho;obtain ⟨n,k,c,l⟩:=h.cells;have m:∀ (fn:Fn) (first cap:Array Value) (w:World),(Instr.makeFunc fn first cap).run Tryz.prog w=.ok (.func fn first cap) w:=fun _ _ _ _=>rfl;have o:¬ rev<1:=by omega
 have q:¬ 1099511627776<rev:=by omega
 have r:¬ rev<=last:=by omega
 clear h hK ho;go_enter Tryz.func110,Tryz.ntmps110
 go_wp2_with (first
  | (go_at_call 143;refine a.mono ?_;clear a;rintro e w1 ⟨rfl,b,d⟩;obtain ⟨j,f,_,_⟩:=b.cells;have i:=H_ b;clear b)
  | (go_at_call 142;go_in))
 go_ret;exact ⟨rfl,i.out.setLast rev rfl,d.setCell (.inl c) _⟩
theorem zku (w:World):Calls Tryz.prog 140 #[] w fun e w'=>∃ g,e=.returned (.pointer (some ⟨g,0,none⟩))/\∃ F,KeyAt w' g [] 0 F/\Fr No w w'/\(∀ b,F b->w.heap.size<=b):=by
 go_enter Tryz.func140,Tryz.ntmps140;go_wp2;go_ret;refine ⟨_,rfl,keyF w.heap.size (.slice none 0 0) [],⟨.slice none 0 0,[],⟨Has.new w _ _,SlF.nil _ _ _ _,by simp,by simp,by simp,by simp [Value.ownBlock]⟩,rfl,fun b=>Iff.rfl⟩,(Fr.refl _ w).alloc _,?_⟩;rintro b (rfl | e | ⟨i,q,a,e⟩)
 · omega
 · simp [Value.ownBlock] at e
 simp at a
def upTo (l:List Int) (rev:Int):Nat:=l.findIdx fun p=>decide (rev<p)
def idxInt (l:List Int) (rev:Int):Int:=if upTo l rev=l.length then -1 else (upTo l rev:Int)
theorem zjc (w:World) (v:Value) (l:List Int) (rev:Int) (tb:Nat) (hv:SlF w 3 1 int1 v l) (hl:l.length<=1099511627776) (ht:w.cell? ⟨tb,0,none⟩=some (.int .i64 rev)) :
 Calls Tryz.prog 76 #[v,.func (.func 133) #[] #[.pointer (some ⟨tb,0,none⟩)]] w fun e w'=>e=.returned (.int .i64 (idxInt l rev))/\w=w':=by
 obtain ⟨a,cap,rfl,u,y,r⟩:=hv.shape;have t:=H_ hv;clear hv;have s:=H_ r;clear r;go_enter Tryz.func76,Tryz.ntmps76;go_wp2
 go_loopg [8] l.length (fun g s8 wr=>∃ i:Nat,s8=.int .i64 i/\i+g=l.length/\Hid (∀ j,j<i->¬ rev<l[j]?.getD 0)/\w=wr)
 case atStart=>exact ⟨0,rfl,by simp,H_ (by simp),rfl⟩
 case round =>
  obtain ⟨i,rfl,B,d,rfl⟩:=hrel
  cases gk with
  | zero =>
    have k:¬ (i:Int)<(l.length:Int):=(by omega);go_wp2;go_ret;refine ⟨?_,rfl⟩
    have o:upTo l rev=l.length:=by
     unfold upTo;rw [List.findIdx_eq_length];intro x b;obtain ⟨j,c,rfl⟩:=List.getElem_of_mem b;have:=d.out j (by omega);simpa [c] using this
    unfold idxInt;rw [if_pos o]
    rfl
  | succ g =>
    obtain ⟨A,go,rfl⟩:=s.out (by omega);have b:l[i]?=some (l[i]'(by omega)):=List.getElem?_eq_getElem (by omega);have z:=t.out.cell1 zbj i b rfl;have k:(i:Int)<(l.length:Int):=(by omega);by_cases hp:rev<l[i]'(by omega)
    · have n:decide (rev<l[i]'(by omega))=true:=by simpa using hp
      have q:=H_ b;have f:=H_ hp;clear b hp;go_wp2;go_ret;refine ⟨?_,rfl⟩
      have o:upTo l rev=i:=by
       unfold upTo;rw [List.findIdx_eq (by omega)];refine ⟨by simpa using f.out,fun j c=>?_⟩;have:=d.out j c;have m:j<l.length:=(by omega);simpa [m] using this
      unfold idxInt;rw [if_neg (by omega),o]
      rfl
    have n:decide (rev<l[i]'(by omega))=false:=by simpa using hp
    have q:=H_ b;have f:=H_ hp;clear b hp;go_wp2;go_roundg g
    case rel =>
     refine ⟨i+1,by go_num,by omega,H_ fun j c=>?_,rfl⟩;by_cases hji:j=i
     · subst hji
       rw [q.out];exact f.out
     exact d.out j (by omega)
    case measure=>omega
theorem zds (l:List Int) (rev:Int):upTo l rev<=l.length:=List.findIdx_le_length
theorem zjk (w:World) (x:Gen) (pv:Value) (rev:Int) (hv:SlF w 3 1 int1 pv x.puts) (hl:x.puts.length<=1099511627776) :
 Calls Tryz.prog 104 #[.agg #[.int .i64 x.create,.int .i64 x.cut,pv,.int .i64 x.end_],.int .i64 rev] w fun e w'=>e=.returned (.int .i64 (upTo x.puts rev))/\Fr No w w':=by
 have l:∀ (fn:Fn) (first cap:Array Value) (w:World),(Instr.makeFunc fn first cap).run Tryz.prog w=.ok (.func fn first cap) w:=fun _ _ _ _=>rfl;obtain ⟨a,cap,rfl,i,j,g⟩:=hv.shape;have b:=fun W hw ht=>zjc W (.slice a x.puts.length cap) x.puts rev (w.heap.size+1) hw hl ht;have k:=zds x.puts rev;have d:=H_ hv;clear hv g;by_cases hu:upTo x.puts rev=x.puts.length
 · have c:idxInt x.puts rev = -1:=by unfold idxInt;rw [if_pos hu]
   rw [c] at b;have f:=H_ hu;clear hu c;go_enter Tryz.func104,Tryz.ntmps104;go_wp2_with (go_at_call 76;refine (b _ (by exact (d.out.alloc _).alloc _) (by simp [go_sem])).mono ?_;rintro e m ⟨rfl,rfl⟩);go_ret;exact ⟨by rw [f.out];rfl,((Fr.refl _ w).alloc _).alloc _⟩
 have c:idxInt x.puts rev=(upTo x.puts rev:Int):=by unfold idxInt;rw [if_neg hu]
 rw [c] at b;generalize upTo x.puts rev=n at *;clear c hu;go_enter Tryz.func104,Tryz.ntmps104;go_wp2_with (go_at_call 76;refine (b _ (by exact (d.out.alloc _).alloc _) (by simp [go_sem])).mono ?_;rintro e m ⟨rfl,rfl⟩);go_ret;exact ⟨rfl,((Fr.refl _ w).alloc _).alloc _⟩
end Go.Proofs.YtdgkdfmfoonbpaaGreat