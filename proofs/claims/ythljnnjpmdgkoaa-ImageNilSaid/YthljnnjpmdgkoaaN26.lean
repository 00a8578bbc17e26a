/- Own lemmas and contracts that the claim's proof needs, laid together. The conditions stand in each. -/
import Derived.Test.YthljnnjpmdgkoaaN24
import Derived.Test.YthljnnjpmdgkoaaN25
namespace Go.Proofs.Ythljnnjpmdgkoaa
open Go Go.Proofs Go.RowKit
structure HOrd (K:List Gen):Prop where
 ends:K.Pairwise fun a b=>0 < a.end_/\(b.end_=0\/a.end_<=b.end_)
 puts:∀ x∈K,x.puts.Pairwise (· < ·)
theorem HOrd.put {K:List Gen} (h:HOrd K) {R:Int} (hM:∀ x∈K,∀ p∈x.puts,p < R) (he:∀ x∈K,0<=x.end_):HOrd (putK K R):=by
 unfold putK
 split
 · rename_i ho
   obtain ⟨L,x,rfl,hx⟩:=zcb ho;rw [zbh];obtain ⟨a,b,c⟩:=List.pairwise_append.1 h.ends;refine ⟨List.pairwise_append.2 ⟨a,by simp,fun y hy z hz=>?_⟩,fun y hy=>?_⟩
   · rw [List.mem_singleton.1 hz]
     exact c y hy x (by simp)
   rcases List.mem_append.1 hy with e | e
   · exact h.puts y (List.mem_append_left _ e)
   rw [List.mem_singleton.1 e]
   refine List.pairwise_append.2 ⟨h.puts x (by simp),by simp,fun p hp q hq=>?_⟩;rw [List.mem_singleton.1 hq];exact hM x (by simp) p hp
 rename_i ho
 have hall:∀ y∈K,0 < y.end_:=by
  rcases List.eq_nil_or_concat K with rfl | ⟨L,x,rfl⟩
  · simp
  simp only [List.concat_eq_append] at *
  obtain ⟨a,b,c⟩:=List.pairwise_append.1 h.ends;intro y hy;rcases List.mem_append.1 hy with e | e
  · exact (c y e x (by simp)).1
  rw [List.mem_singleton.1 e]
  have h0:x.end_≠0:=fun h0=>ho (by unfold isOpen;simp [h0]);have:=he x (by simp);omega
 refine ⟨List.pairwise_append.2 ⟨h.ends,by simp,fun y hy z hz=>?_⟩,fun y hy=>?_⟩
 · rw [List.mem_singleton.1 hz]
   exact ⟨hall y hy,.inl rfl⟩
 rcases List.mem_append.1 hy with e | e
 · exact h.puts y e
 rw [List.mem_singleton.1 e];simp
theorem HOrd.tomb {K:List Gen} (h:HOrd K) (ho:isOpen K=true) {R:Int} (hM:∀ x∈K,x.end_ < R):HOrd (tombK K R):=by
 obtain ⟨L,x,rfl,hx⟩:=zcb ho;unfold tombK;rw [zbh];obtain ⟨a,b,c⟩:=List.pairwise_append.1 h.ends;refine ⟨List.pairwise_append.2 ⟨a,by simp,fun y hy z hz=>?_⟩,fun y hy=>?_⟩
 · rw [List.mem_singleton.1 hz]
   have:=hM y (List.mem_append_left _ hy);exact ⟨(c y hy x (by simp)).1,.inr (by dsimp only;omega)⟩
 rcases List.mem_append.1 hy with e | e
 · exact h.puts y (List.mem_append_left _ e)
 rw [List.mem_singleton.1 e]
 exact h.puts x (by simp)
theorem zpr {l:List Int} {R:Int} {j:Nat} (hj:j < upTo l R) (hl:j < l.length):l[j]<=R:=by
 unfold upTo at hj;have:=List.not_of_lt_findIdx hj;simpa using this
theorem zps {l:List Int} {r:Int} {k:Nat} (hk:k<=l.length) (h:∀ j (hj:j < l.length),j < k->l[j]<=r):k<=upTo l r:=by
 unfold upTo;rcases Nat.lt_or_ge (l.findIdx fun p=>decide (r < p)) k with hc | hc
 · have hl:(l.findIdx fun p=>decide (r < p)) < l.length:=by omega
   have h1:=List.findIdx_getElem (w:=hl);have h2:=h _ hl hc;simp only [decide_eq_true_eq] at h1;omega
 exact hc
theorem zkd (l:List Int) {R r:Int} (h:R<=r):upTo l R<=upTo l r :=
 zps (zdp l R) fun _j hj hk=>Int.le_trans (zpr hk hj) h
theorem zpt {l:List Int} {R r:Int} {k:Nat} (hk:k<=upTo l R) (h:R<=r):upTo (l.drop k) r=upTo l r - k:=by
 have hkl:k<=l.length:=Nat.le_trans hk (zdp l R)
 have ht:(l.take k).findIdx (fun p=>decide (r < p))=k:=by
  have:(l.take k).findIdx (fun p=>decide (r < p))=(l.take k).length:=by
   refine List.findIdx_eq_length_of_false fun p hp=>?_;obtain ⟨j,hj⟩:=List.mem_iff_getElem?.1 hp;have hjl:=(List.getElem?_eq_some_iff.1 hj).1;rw [List.length_take] at hjl;rw [List.getElem?_take_of_lt (by omega)] at hj;have h1:=zpr (l:=l) (R:=R) (j:=j) (by omega) (by omega);rw [(List.getElem?_eq_some_iff.1 hj).2] at h1;simp;omega
  rw [this];simp;omega
 have h2:upTo l r=k+upTo (l.drop k) r:=by
  conv=>lhs;rw [<-List.take_append_drop k l]
  unfold upTo;rw [List.findIdx_append,ht];have:(l.take k).length=k:=(by simp;omega);rw [this,if_neg (by omega)];omega
 omega
theorem zrj {K:List Gen} {r:Int} (h:∀ y∈K,0 < y.end_/\y.end_<=r):atK K r=((0,0,0),false):=by
 unfold atK
 split
 · rfl
 rename_i x hx
 have hm:=List.mem_reverse.1 (List.mem_of_find?_eq_some hx);have:=h x hm;rw [if_pos ⟨this.1,this.2⟩]
theorem zeb (R:Int) (x:Gen):(compG R x).end_=x.end_/\(compG R x).create=x.create:=by
 unfold compG
 split <;> exact ⟨rfl,rfl⟩
theorem zpa (R:Int) (K:List Gen) (x:Gen):compK R (K++[x])=compK R K++if endB R x then [] else [compG R x]:=by
 unfold compK;rw [List.filter_append,List.map_append]
 congr 1
 cases h:endB R x <;> simp [h]
theorem zju {K:List Gen} (h:HOrd K) {R r:Int} (hr:R<=r):atK (compK R K) r=atK K r:=by
 have key:∀ n (K:List Gen),K.length=n->HOrd K->atK (compK R K) r=atK K r:=by
  intro n
  induction n with
  | zero =>
    intro K hn _;rw [List.eq_nil_of_length_eq_zero hn]
    rfl
  | succ n ih =>
    intro K hn h;rcases List.eq_nil_or_concat K with rfl | ⟨L,x,rfl⟩
    · simp at hn
    simp only [List.concat_eq_append] at *
    obtain ⟨a,b,c⟩:=List.pairwise_append.1 h.ends;have hL:HOrd L:=⟨a,fun y hy=>h.puts y (List.mem_append_left _ hy)⟩;have ihL:=ih L (by simp at hn;omega) hL;rw [zpa,zbk]
    cases he:endB R x with
    | true =>
      simp only [if_true,List.append_nil];rw [ihL];unfold endB at he;simp only [Bool.and_eq_true,decide_eq_true_eq] at he
      have hnone:atK L r=((0,0,0),false):=zrj fun y hy=>by
       have:=c y hy x (by simp);omega
      rw [hnone,if_pos (show 0 < x.end_/\x.end_<=r by omega)]
      split <;> rfl
    | false =>
      simp only [Bool.false_eq_true,if_false];rw [zbk,(zeb R x).1,(zeb R x).2,ihL];unfold compG;by_cases hn1:1 < upTo x.puts R
      · rw [if_pos hn1]
        dsimp only;have hle:=zkd x.puts hr;have hul:=zdp x.puts r;have hd:=zpt (l:=x.puts) (R:=R) (r:=r) (k:=upTo x.puts R - 1) (by omega) hr;rw [hd,if_pos (show upTo x.puts r - (upTo x.puts R - 1)≠0 by omega),if_pos (show upTo x.puts r≠0 by omega),List.getElem?_drop];have e1:upTo x.puts R - 1+(upTo x.puts r - (upTo x.puts R - 1) - 1)=upTo x.puts r - 1:=(by omega);have e2:x.cut+((upTo x.puts R:Int) - 1)+((upTo x.puts r - (upTo x.puts R - 1):Nat):Int)=x.cut+(upTo x.puts r:Int):=(by omega);rw [e1,e2]
      rw [if_neg hn1]
 exact key K.length K rfl h
theorem zsv {K:List Gen} (h:HOrd K) {R r:Int} (hr:R<=r) (hm:(atK K r).1.2.1<=R):(atK K r).1.2.1=(atK K R).1.2.1\/(atK K r).1.2.1=0:=by
 have key:∀ n (K:List Gen),K.length=n->HOrd K->(atK K r).1.2.1<=R->(atK K r).1.2.1=(atK K R).1.2.1\/(atK K r).1.2.1=0:=by
  intro n
  induction n with
  | zero =>
    intro K hn _ _;rw [List.eq_nil_of_length_eq_zero hn];exact .inr rfl
  | succ n ih =>
    intro K hn h hm;rcases List.eq_nil_or_concat K with rfl | ⟨L,x,rfl⟩
    · simp at hn
    simp only [List.concat_eq_append] at *
    obtain ⟨a,b,c⟩:=List.pairwise_append.1 h.ends;have hL:HOrd L:=⟨a,fun y hy=>h.puts y (List.mem_append_left _ hy)⟩;rw [zbk] at hm ⊢
    rw [zbk];have hmono:=zkd x.puts hr;by_cases hu:upTo x.puts r≠0
    · rw [if_pos hu] at hm ⊢
      by_cases he:0 < x.end_/\x.end_<=r
      · rw [if_pos he];exact .inr rfl
      rw [if_neg he] at hm ⊢
      dsimp only at hm ⊢
      have hul:=zdp x.puts r;have hlt:upTo x.puts r - 1 < x.puts.length:=(by omega);rw [List.getElem?_eq_getElem hlt,Option.getD_some] at hm
      have hge:upTo x.puts r<=upTo x.puts R:=zps hul fun j hj hk=>by
       rcases Nat.lt_or_ge j (upTo x.puts r - 1) with e | e
       · have:=List.pairwise_iff_getElem.1 (h.puts x (by simp)) j (upTo x.puts r - 1) hj hlt e
         omega
       have:j=upTo x.puts r - 1:=by omega
       subst this;exact hm
      have he2:upTo x.puts R=upTo x.puts r:=(by omega);rw [he2,if_pos hu,if_neg (by omega)];exact .inl rfl
    rw [if_neg hu] at hm ⊢
    rw [if_neg (by omega)];exact ih L (by simp at hn;omega) hL hm
 exact key K.length K rfl h hm
def compH (R:Int) (H:Hist):Hist:={ gens:=compK R H.gens,last:=H.last,kvs:=fun r=>if r<=R/\r≠(atK (compK R H.gens) R).1.2.1 then none else H.kvs r }
theorem zra {M:Int} {H:Hist} (hI:HInv M H) (h:HOrd H.gens) {R r:Int} (hr:R<=r):hadH (compH R H) r=hadH H r:=by
 unfold hadH compH;dsimp only;rw [zju h hr,zju h (Int.le_refl R)];by_cases hm:(atK H.gens r).1.2.1<=R
 · rcases zsv h hr hm with e | e
   · rw [if_neg fun c=>c.2 e]
   rw [e]
   split
   · rw [hI.zero]
   rfl
 rw [if_neg fun c=>hm c.1]
theorem zqz {H:Hist} (h:HOrd H.gens) {R r:Int} (hr:R<=r) (hM:H.kvs 0=none) (hn:compK R H.gens = []):hadH H r=(kv0,false):=by
 unfold hadH;rw [<-zju h hr,hn];dsimp only [ztu];rw [hM]
 rfl
theorem zda {R:Int} {K:List Gen} {y:Gen} (hy:y∈compK R K):∃ x∈K,y=compG R x:=by
 unfold compK at hy;obtain ⟨x,hx,rfl⟩:=List.mem_map.1 hy;exact ⟨x,(List.mem_filter.1 hx).1,rfl⟩
theorem zdb (R:Int) (x:Gen):∃ k,(compG R x).puts=x.puts.drop k/\(compG R x).cut=x.cut+(k:Int)/\k<=x.puts.length/\(x.puts≠[]->k < x.puts.length):=by
 have hl:=zdp x.puts R;unfold compG
 split
 · exact ⟨upTo x.puts R - 1,rfl,by dsimp only;omega,by omega,fun _=>by omega⟩
 exact ⟨0,rfl,by simp,by omega,fun h=>List.length_pos_iff.2 h⟩
theorem HInv.comp {M:Int} {H:Hist} (h:HInv M H) (R:Int):HInv M (compH R H):=by
 refine ⟨fun y hy p hp=>?_,fun y hy=>?_,fun y hy=>?_,?_⟩
 · obtain ⟨x,hx,rfl⟩:=zda hy
   obtain ⟨k,hk,_⟩:=zdb R x;rw [hk] at hp;exact h.puts x hx p (List.mem_of_mem_drop hp)
 · obtain ⟨x,hx,rfl⟩:=zda hy
   rw [(zeb R x).1];exact h.ends x hx
 · obtain ⟨x,hx,rfl⟩:=zda hy
   obtain ⟨k,hk,_,_,hk2⟩:=zdb R x;have:=hk2 (h.full x hx);rw [hk];exact fun e=>by have:=congrArg List.length e;simp at this;omega
 show (if _ then none else H.kvs 0)=none
 split
 · rfl
 exact h.zero
theorem HOrd.comp {K:List Gen} (h:HOrd K) (R:Int):HOrd (compK R K):=by
 refine ⟨?_,fun y hy=>?_⟩
 · unfold compK
   rw [List.pairwise_map];refine List.Pairwise.imp (fun {a b} hab=>?_) (List.Pairwise.sublist List.filter_sublist h.ends);rw [(zeb R a).1,(zeb R b).1];exact hab
 obtain ⟨x,hx,rfl⟩:=zda hy
 obtain ⟨k,hk,_⟩:=zdb R x;rw [hk];exact List.Pairwise.sublist (List.drop_sublist _ _) (h.puts x hx)
structure HMore (n:Nat) (H:Hist):Prop where
 ord:HOrd H.gens
 fin:∃ l:List Int,l.length<=n/\∀ r,H.kvs r≠none->r∈l
 cut:∀ x∈H.gens,0<=x.cut/\x.cut+x.puts.length<=n
theorem HMore.mono {n m:Nat} {H:Hist} (h:HMore n H) (hm:n<=m):HMore m H :=
 ⟨h.ord,by obtain ⟨l,a,b⟩:=h.fin;exact ⟨l,by omega,b⟩,fun x hx=>by have:=h.cut x hx;omega⟩
theorem HMore.new (n:Nat):HMore n newH:=⟨⟨List.Pairwise.nil,fun x hx=>by simp [newH] at hx⟩,⟨[],by simp,fun r hr=>absurd rfl hr⟩,fun x hx=>by simp [newH] at hx⟩
theorem HMore.put {n:Nat} {M:Int} {H:Hist} (h:HMore n H) (hI:HInv M H) (x:Kv) (hM:M < x.mod):HMore (n+1) (putH H x):=by
 refine ⟨h.ord.put (fun y hy p hp=>by have:=(hI.puts y hy p hp).2;omega) fun y hy=>(hI.ends y hy).1,?_,fun y hy=>?_⟩
 · obtain ⟨l,a,b⟩:=h.fin
   refine ⟨x.mod :: l,by simp;omega,fun r hr=>?_⟩;by_cases e:r=x.mod
   · rw [e];simp
   unfold putH at hr
   dsimp only at hr;rw [if_neg e] at hr;exact List.mem_cons_of_mem _ (b r hr)
 unfold putH putK at hy
 dsimp only at hy
 split at hy
 · obtain ⟨z,hz,e | e⟩:=zdg hy
   · rw [e];have:=h.cut z hz;omega
   rw [e]
   have:=h.cut z hz;dsimp only;simp only [List.length_append,List.length_singleton];omega
 rcases List.mem_append.1 hy with e | e
 · have:=h.cut y e;omega
 rw [List.mem_singleton.1 e]
 simp;omega
theorem HMore.tomb {n:Nat} {M:Int} {H:Hist} (h:HMore n H) (hI:HInv M H) (ho:isOpen H.gens=true) {R:Int} (hM:M < R):HMore n (tombH H R):=by
 refine ⟨h.ord.tomb ho fun y hy=>by have:=(hI.ends y hy).2;omega,h.fin,fun y hy=>?_⟩;unfold tombH tombK at hy;dsimp only at hy;obtain ⟨z,hz,e | e⟩:=zdg hy
 · rw [e];exact h.cut z hz
 rw [e];exact h.cut z hz
theorem HMore.comp {n:Nat} {H:Hist} (h:HMore n H) (R:Int):HMore n (compH R H):=by
 refine ⟨h.ord.comp R,?_,fun y hy=>?_⟩
 · obtain ⟨l,a,b⟩:=h.fin
   refine ⟨l,a,fun r hr=>b r ?_⟩;unfold compH at hr;dsimp only at hr
   split at hr
   · exact absurd rfl hr
   exact hr
 obtain ⟨x,hx,rfl⟩:=zda hy
 obtain ⟨k,hk,hc,hk1,_⟩:=zdb R x;have:=h.cut x hx;rw [hk,hc,List.length_drop];omega
theorem HistOk.comp {n:Nat} {H:Hist} (h:HistOk n H) (hm:HMore n H) (hn:n<=1099511627) (R:Int):HistOk n (compH R H):=by
 refine ⟨?_,fun y hy=>?_⟩
 · show (compK R H.gens).length<=n
   unfold compK;rw [List.length_map];exact Nat.le_trans (List.length_filter_le _ _) h.len
 obtain ⟨x,hx,rfl⟩:=zda hy
 obtain ⟨k,hk,hc,hk1,_⟩:=zdb R x;have h1:=h.puts x hx;have h2:=hm.cut x hx;rw [hk,hc,List.length_drop];unfold top;exact ⟨by omega,by omega,by omega,fun p hp=>h1.2.2.2 p (List.mem_of_mem_drop hp)⟩
def SMore (n:Nat) (S:St):Prop:=∀ i H,S.past i=some H->HMore n H
theorem SMore.mono {n m:Nat} {S:St} (h:SMore n S) (hm:n<=m):SMore m S:=fun i H hi=>(h i H hi).mono hm
theorem SMore.doS {n:Nat} {M:Int} {S:St} (h:SMore n S) (hI:SInv M S) (hM0:0<=M) (x:Ev) (h1:1<=x.kv.mod) (hlast:(getT S.T x.kv.key).2=true->∀ H,S.past (getT S.T x.kv.key).1=some H->H.last < x.kv.mod)
 (hdel:x.kind≠1->(getT S.T x.kv.key).2=true/\∀ H,S.past (getT S.T x.kv.key).1=some H->isOpen H.gens=true):SMore (n+1) (doS S x):=by
 intro i H' hi;change (doneS S x).past i=some H' at hi;unfold doneS at hi;by_cases hk:x.kind=1
 · rw [if_pos hk] at hi
   unfold putS at hi;dsimp only at hi;obtain ⟨a,b,c,d⟩:=hI.made hM0 x.kv.key
   have hmade:∀ j G,(madeS S x.kv.key).past j=some G->(HMore n G/\HInv G.last G):=fun j G hj=>by
    refine ⟨?_,(a.hist j G hj).1.1⟩;unfold madeS at hj
    split at hj
    · exact h j G hj
    dsimp only at hj
    split at hj
    · rw [<-Option.some.inj hj];exact HMore.new n
    exact h j G hj
   split at hi
   · rw [<-Option.some.inj hi]
     obtain ⟨G,hG⟩:=a.has _ b;rw [c] at hG
     have hl:G.last < x.kv.mod:=by
      unfold madeS idS at hG
      cases hg:(getT S.T x.kv.key).2 with
      | true=>rw [hg,if_pos rfl,if_pos rfl] at hG;exact hlast hg G hG
      | false =>
        simp only [hg,Bool.false_eq_true,if_false,if_true] at hG;rw [<-Option.some.inj hG]
        show (0:Int) < x.kv.mod
        omega
     rw [hG,Option.getD_some];exact (hmade _ _ hG).1.put (hmade _ _ hG).2 x.kv hl
   exact (hmade i H' hi).1.mono (by omega)
 rw [if_neg hk] at hi
 obtain ⟨e1,e2⟩:=hdel hk;unfold tombS at hi;rw [if_pos e1] at hi;dsimp only at hi
 split at hi
 · obtain ⟨G,hG⟩:=hI.has _ e1
   rw [hG,Option.map_some] at hi;rw [<-Option.some.inj hi];exact ((h _ G hG).tomb (hI.hist _ _ hG).1.1 (e2 G hG) (hlast e1 G hG)).mono (by omega)
 exact (h i H' hi).mono (by omega)
def Doc.adds (D:Doc) (E:List Ev):Doc:=E.foldl Doc.add D
theorem Doc.adds_snoc (D:Doc) (E:List Ev) (x:Ev):D.adds (E++[x])=(D.adds E).add x:=by
 unfold Doc.adds;rw [List.foldl_append]
 rfl
theorem Doc.adds_parts (D:Doc) (E:List Ev):(D.adds E).mark=D.mark/\(D.adds E).kvs=D.kvs/\(D.adds E).events=D.events++E:=by
 induction E generalizing D with
 | nil=>exact ⟨rfl,rfl,by simp [Doc.adds]⟩
 | cons e E ih =>
   obtain ⟨a,b,c⟩:=ih (D.add e);refine ⟨a,b,?_⟩
   show ((D.add e).adds E).events=_
   rw [c]
   show (D.events++[e])++E=_
   simp
theorem Doc.adds_rev (D:Doc) (E:List Ev) (R:Int) (h:∀ e∈E,e.kv.mod=R):(D.adds E).rev=if E = [] then D.rev else R:=by
 rcases List.eq_nil_or_concat E with rfl | ⟨E',x,rfl⟩
 · rfl
 simp only [List.concat_eq_append] at *
 rw [Doc.adds_snoc,if_neg (by simp)];exact h x (by simp)
structure RunOk (c n:Nat) (D:Doc) (P:List Opr) (S:St) (E:List Ev):Prop where
 cpl:Cpl S (D.adds E)
 doc:DocOk n (D.adds E)
 ok:StOk n S
 size:S.T.length<=c
 srt:Sorted S.T
 more:SMore n S
 srev:S.rev=D.rev
 mods:∀ e∈E,e.kv.mod=D.rev+1
 old:∀ e∈D.events,e.kv.mod<=D.rev
 last:∀ k,(getT S.T k).2=true->∀ H,S.past (getT S.T k).1=some H->H.last<=D.rev\/∃ e∈E,e.kv.key=k
 by1:∀ e∈E,(e.kind=1/\∃ o∈P,o.kind=1/\o.rg.key=e.kv.key)\/(e.kind=2/\(∃ o∈P,o.kind=2/\inB e.kv.key o.rg.key o.rg.end_=true)/\hasL ((D.adds E).at (D.rev+1)) e.kv.key=none)
theorem RunOk.mono {c n c' n':Nat} {D:Doc} {P P':List Opr} {S:St} {E:List Ev} (h:RunOk c n D P S E) (hc:c<=c') (hn:n<=n') (hP:∀ o∈P,o∈P'):RunOk c' n' D P' S E :=
 { h with doc:=h.doc.mono hn,ok:=h.ok.mono hn,size:=Nat.le_trans h.size hc,more:=h.more.mono hn,by1:=fun e he=>(h.by1 e he).imp (fun ⟨a,o,b,c⟩=>⟨a,o,hP o b,c⟩) fun ⟨a,⟨o,b,c⟩,d⟩=>⟨a,⟨o,hP o b,c⟩,d⟩ }
theorem RunOk.rev {c n:Nat} {D:Doc} {P:List Opr} {S:St} {E:List Ev} (h:RunOk c n D P S E):D.rev<=(D.adds E).rev/\(D.adds E).rev<=D.rev+1:=by
 rw [Doc.adds_rev D E _ h.mods]
 split <;> omega
theorem zhv (T:Pairs) (k:ByteArray) (m:Int):(insT T k m).length<=T.length+1:=by
 induction T with
 | nil=>simp [insT]
 | cons p T ih =>
   unfold insT
   split
   · simp;omega
   split <;> simp
theorem zrg (S:St) (x:Ev):(doS S x).T.length<=S.T.length+if x.kind=1 then 1 else 0:=by
 show (doneS S x).T.length<=_
 unfold doneS
 split
 · unfold putS madeS
   dsimp only
   split
   · omega
   exact zhv _ _ _
 unfold tombS
 split <;> simp
theorem zfu {S:St} (h:Sorted S.T) (x:Ev):Sorted (doS S x).T:=by
 show Sorted (doneS S x).T
 unfold doneS
 split
 · unfold putS madeS
   dsimp only
   split
   · exact h
   exact (zhu _ h _ _).1
 unfold tombS
 split <;> exact h
theorem doS_T2 (S:St) (x:Ev) (h:x.kind≠1):(doS S x).T=S.T:=by
 show (doneS S x).T=S.T
 unfold doneS;rw [if_neg h];unfold tombS
 split <;> rfl
theorem zmp (S:St) (x:Ev):(doS S x).rev=S.rev:=by
 show (doneS S x).rev=S.rev
 unfold doneS putS tombS madeS;dsimp only
 split
 · split <;> rfl
 split <;> rfl
theorem SInv.open_lives {M:Int} {S:St} (h:SInv M S) {k:ByteArray} (hk:(getT S.T k).2=true) {H:Hist} (hH:S.past (getT S.T k).1=some H) {r:Int} (hr:H.last<=r):(livesS S k r).2=isOpen H.gens:=by
 unfold livesS;rw [if_pos hk,hH];exact zqy (h.hist _ _ hH).1.1 hr
theorem zgk {M:Int} {S:St} (h:SInv M S) (hM:0<=M) (x:Ev) {B:Int} (_hB:0<=B) {k:ByteArray} (hk:(getT (doS S x).T k).2=true) {H:Hist} (hH:(doS S x).past (getT (doS S x).T k).1=some H)
 (hl:(getT S.T k).2=true->∀ H,S.past (getT S.T k).1=some H->H.last<=B\/k=x.kv.key):H.last<=B\/k=x.kv.key:=by
 by_cases hkx:k=x.kv.key
 · exact .inr hkx
 have hl':(getT S.T k).2=true->∀ H,S.past (getT S.T k).1=some H->H.last<=B:=fun a H b=>(hl a H b).resolve_right hkx;refine .inl ?_;have hne:keq x.kv.key k=false:=by rw [Bool.eq_false_iff];exact fun e=>hkx (zai.1 e).symm
 change (getT (doneS S x).T k).2=true at hk;change (doneS S x).past (getT (doneS S x).T k).1=some H at hH;unfold doneS at hk hH;by_cases h1:x.kind=1
 · rw [if_pos h1] at hk hH
   obtain ⟨a,b,c,d⟩:=h.made hM x.kv.key;unfold putS at hk hH;dsimp only at hk hH
   have hid:(getT (madeS S x.kv.key).T k).1≠idS S x.kv.key:=fun e=>by
    have:=a.inj k x.kv.key hk b (e.trans c.symm);exact hkx this
   rw [if_neg hid] at hH
   -- behind 'made' the other keys are as they were
   unfold madeS at hk hH;by_cases hg:(getT S.T x.kv.key).2=true
   · rw [if_pos hg] at hk hH
     exact hl' hk H hH
   rw [if_neg hg] at hk hH
   dsimp only at hk hH;rw [zbv,hne] at hk hH;simp only [Bool.false_eq_true,if_false] at hk hH;obtain ⟨G,hG⟩:=h.has k hk;have:=(h.hist _ _ hG).2;rw [if_neg (by omega)] at hH;exact hl' hk H hH
 rw [if_neg h1] at hk hH
 unfold tombS at hk hH;by_cases hg:(getT S.T x.kv.key).2=true
 · rw [if_pos hg] at hk hH
   dsimp only at hk hH;rw [if_neg fun e=>hkx (h.inj k x.kv.key hk hg e)] at hH;exact hl' hk H hH
 rw [if_neg hg] at hk hH
 exact hl' hk H hH
theorem RunOk.event {c n N:Nat} {D:Doc} {P:List Opr} {S:St} {E:List Ev} (h:RunOk c n D P S E) (x:Ev) (hD0:0<=D.rev) (hmod:x.kv.mod=D.rev+1) (htop:D.rev+1<=top) (hmk:D.mark<=D.rev)
 (hp:x.prev=(hasL ((D.adds E).at (D.rev+1)) x.kv.key).getD kv0) (hfree:∀ e∈E,e.kv.key≠x.kv.key) (hN:c < N)
 (hk:(x.kind=1/\(x.kv.version=x.prev.version+1)/\∃ o∈P,o.kind=1/\o.rg.key=x.kv.key)\/(x.kind=2/\(∃ o∈P,o.kind=2/\inB x.kv.key o.rg.key o.rg.end_=true)/\hasL ((D.adds E).at (D.rev+1)) x.kv.key≠none)) :
 DoOk N S x/\RunOk (c+if x.kind=1 then 1 else 0) (n+1) D P (doS S x) (E++[x]):=by
 have hrev:=h.rev;have hpt:=Doc.adds_parts D E;have hks:KSorted D.kvs:=by have:=h.cpl.ks;rw [hpt.2.1] at this;exact this
 have hmark:(D.adds E).mark < x.kv.mod:=by rw [hpt.1];omega
 -- the key's history is older
 have hlast:(getT S.T x.kv.key).2=true->∀ H,S.past (getT S.T x.kv.key).1=some H->H.last < x.kv.mod:=fun a H b=>by
  rcases h.last _ a H b with h1 | ⟨e,h1,h2⟩
  · omega
  exact absurd h2 (hfree e h1)
 have hkind:x.kind=1\/x.kind=2:=hk.imp (·.1) (·.1)
 have hdel:x.kind≠1->(getT S.T x.kv.key).2=true/\∀ H,S.past (getT S.T x.kv.key).1=some H->isOpen H.gens=true:=fun hx=>by
  rcases hk with hk | ⟨_,_,hne⟩
  · exact absurd hk.1 hx
  cases hh:hasL ((D.adds E).at (D.rev+1)) x.kv.key with
  | none=>exact absurd hh hne
  | some y =>
    have hmr:(D.adds E).mark<=D.rev+1:=(by rw [hpt.1];omega);have hg:=h.cpl.has hmr hh;refine ⟨hg,fun H hH=>?_⟩;have hl:=hlast hg H hH;have h2:=h.cpl.inv.open_lives hg hH (r:=D.rev+1) (by omega);rw [<-h2,h.cpl.lives _ _ hmr,hh]
    rfl
 have hver:x.kind=1->1<=x.kv.version/\x.kv.version<=(n:Int)+1:=fun hx=>by
  rcases hk with ⟨_,hv,_⟩ | hk
  · have h1:=h.doc.ver_has (by rw [hpt.2.1];exact hks) (D.rev+1) x.kv.key
    rw [<-hp] at h1;omega
  rw [hk.1] at hx;cases hx
 have hcpl:=h.cpl.does x (by omega) (by omega) hmark hlast hdel
 have hdoc:=h.doc.add x (by omega) hmark (by omega) (by omega) (by rw [hmod];exact hp) hkind hver (fun e he hem=>by
  rw [hpt.2.2] at he;rcases List.mem_append.1 he with he | he
  · have:=h.old e he;omega
  exact hfree e he)
 refine ⟨⟨by omega,by omega,fun H a b=>hlast b H a,fun _ _=>by have:=h.size;omega,fun hx H a b=>(hdel hx).2 H a⟩,?_⟩;refine ⟨by rw [Doc.adds_snoc];exact hcpl,by rw [Doc.adds_snoc];exact hdoc,doS_ok h.ok x (by omega) (by omega),?_,zfu h.srt x,h.more.doS h.cpl.inv (by omega) x (by omega) hlast hdel,by rw [zmp];exact h.srev,fun e he=>?_,h.old,fun k a H b=>?_,fun e he=>?_⟩
 · have:=zrg S x
   have:=h.size;omega
 · rcases List.mem_append.1 he with he | he
   · exact h.mods e he
   rw [List.mem_singleton.1 he];exact hmod
 · by_cases hkx:k=x.kv.key
   · exact .inr ⟨x,List.mem_append_right _ List.mem_cons_self,hkx.symm⟩
   by_cases hold:∃ e∈E,e.kv.key=k
   · obtain ⟨e,h1,h2⟩:=hold
     exact .inr ⟨e,List.mem_append_left _ h1,h2⟩
   refine .inl ?_
   refine (zgk h.cpl.inv (by omega) x hD0 a b fun a' H' b'=>?_).resolve_right hkx;exact .inl ((h.last k a' H' b').resolve_right hold)
 have hnow:∀ k,k≠x.kv.key->hasL ((D.adds (E++[x])).at (D.rev+1)) k=hasL ((D.adds E).at (D.rev+1)) k:=fun k hkx=>by
  rw [Doc.adds_snoc,Doc.add_at _ x hmark,if_pos (by omega),zcj (Doc.at_sorted (by rw [hpt.2.1];exact hks) _),if_neg fun e=>hkx (zai.1 e)]
 rcases List.mem_append.1 he with he | he
 · rcases h.by1 e he with h1 | ⟨h1,h2,h3⟩
   · exact .inl h1
   exact .inr ⟨h1,h2,by rw [hnow _ (hfree e he)];exact h3⟩
 obtain rfl:=List.mem_singleton.1 he
 rcases hk with ⟨h1,_,h2⟩ | ⟨h1,h2,_⟩
 · exact .inl ⟨h1,h2⟩
 refine .inr ⟨h1,h2,?_⟩
 rw [Doc.adds_snoc,Doc.add_at _ e hmark,if_pos (by omega),zcj (Doc.at_sorted (by rw [hpt.2.1];exact hks) _),if_pos (zai.2 rfl),if_neg (by omega)]
end Go.Proofs.Ythljnnjpmdgkoaa