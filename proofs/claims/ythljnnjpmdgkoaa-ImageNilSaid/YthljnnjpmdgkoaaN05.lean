/- The package index in memory: a tree of any size (TreeR), and what becomes of it when one part is laid anew. No program is run. -/
import Derived.Test.YthljnnjpmdgkoaaN01
import Derived.Test.YthljnnjpmdgkoaaN04
namespace Go.Proofs.Ythljnnjpmdgkoaa
open Go Go.Proofs Go.RowKit
set_option maxRecDepth 100000
def nat1 (n:Nat):List Value:=[.int .i64 n]
theorem zak (n:Nat):(nat1 n).length=1:=rfl
structure Nz where
 nd:Nd
 pv:Value
 kv:Value
def nzC (z:Nz):List Value:=[z.pv,z.kv]
theorem zbq (z:Nz):(nzC z).length=2:=rfl
def zown (z:Nz) (b:Nat):Prop:=z.pv.ownBlock=some b\/z.kv.ownBlock=some b
theorem SlF.mapped {α β:Type} {f:β->List Value} {g:α->β} {h:α->List Value} {w:World} {e sz:Nat} {v:Value} {L:List α} (hg:∀ x,f (g x)=h x) (hs:SlF w e sz h v L):SlF w e sz f v (L.map g):=by
 have e1:(L.map g).flatMap f=L.flatMap h:=by
  rw [List.flatMap_map];exact zbn _ fun x _=>hg x
 unfold SlF at hs ⊢
 rw [List.length_map,e1];exact hs
structure TreeR (w:World) (t:Nat) (nv fv:Value) (Z:List Nz) (fr:List Nat) (root:Nat) (many:Int):Prop where
 obj:Has w t [nv,fv,.int .i64 root,.int .i64 many]
 nodes:SlF w 198 2 nzC nv Z
 free:SlF w 3 1 nat1 fv fr
 pairs:∀ (i:Nat) z,Z[i]? = some z->SlF w 127 2 pairC z.pv z.nd.pairs
 kids:∀ (i:Nat) z,Z[i]? = some z->SlF w 3 1 nat1 z.kv z.nd.kids
 a1:nv.ownBlock≠some t/\fv.ownBlock≠some t/\∀ b,nv.ownBlock=some b->fv.ownBlock≠some b
 a2:∀ (i:Nat) z b,Z[i]? = some z->zown z b->b≠t/\nv.ownBlock≠some b/\fv.ownBlock≠some b
 a3:∀ (i:Nat) z b,Z[i]? = some z->z.pv.ownBlock=some b->z.kv.ownBlock≠some b
 a4:∀ (i j:Nat) z y b,Z[i]? = some z->Z[j]? = some y->zown z b->zown y b->i=j
def treeF (t:Nat) (nv fv:Value) (Z:List Nz) (b:Nat):Prop:=b=t\/nv.ownBlock=some b\/fv.ownBlock=some b\/∃ (i:Nat) (z:Nz),Z[i]? = some z/\zown z b
section
variable {w w':World} {t:Nat} {nv fv:Value} {Z:List Nz} {fl:List Nat} {root:Nat} {many:Int}
theorem TreeR.zlt (h:TreeR w t nv fv Z fl root many) {i:Nat} {z:Nz} {b:Nat} (hz:Z[i]? = some z) (hb:zown z b):b < w.heap.size:=by
 rcases hb with hb | hb
 · exact (h.pairs i z hz).lt b hb
 exact (h.kids i z hz).lt b hb
theorem TreeR.lt (h:TreeR w t nv fv Z fl root many):∀ b,treeF t nv fv Z b->b < w.heap.size:=by
 rintro b (rfl | e | e | ⟨i,z,hz,hb⟩)
 · exact h.obj.lt
 · exact h.nodes.lt b e
 · exact h.free.lt b e
 exact h.zlt hz hb
theorem TreeR.fr {S:Nat->Prop} (h:TreeR w t nv fv Z fl root many) (hf:Fr S w w') (hn:∀ b,treeF t nv fv Z b->¬ S b):TreeR w' t nv fv Z fl root many where
 obj:=h.obj.fr hf (hn t (.inl rfl))
 nodes:=h.nodes.fr hf fun b hb=>hn b (.inr (.inl hb))
 free:=h.free.fr hf fun b hb=>hn b (.inr (.inr (.inl hb)))
 pairs i z hz:=(h.pairs i z hz).fr hf fun b hb=>hn b (.inr (.inr (.inr ⟨i,z,hz,.inl hb⟩)))
 kids i z hz:=(h.kids i z hz).fr hf fun b hb=>hn b (.inr (.inr (.inr ⟨i,z,hz,.inr hb⟩)))
 a1:=h.a1
 a2:=h.a2
 a3:=h.a3
 a4:=h.a4
theorem TreeR.fr0 (h:TreeR w t nv fv Z fl root many) (hf:Fr No w w'):TreeR w' t nv fv Z fl root many:=h.fr hf fun _ _ s=>s
theorem zdv {Z:List Nz} {i j:Nat} {z' y:Nz} (h:(Z.set i z')[j]? = some y):(j=i/\y=z'/\i < Z.length)\/(j≠i/\Z[j]? = some y):=by
 rw [List.getElem?_set] at h;by_cases e:i=j
 · subst e
   rw [if_pos rfl] at h
   split at h
   · cases h;exact .inl ⟨rfl,rfl,by assumption⟩
   cases h
 rw [if_neg e] at h
 exact .inr ⟨Ne.symm e,h⟩
theorem TreeR.setNode {S:Nat->Prop} (h:TreeR w t nv fv Z fl root many) (i:Nat) (z z':Nz) (hz:Z[i]? = some z) (hf:Fr S w w') (hS:∀ b,S b->nv.ownBlock=some b\/zown z b)
 (hn:SlF w' 198 2 nzC nv (Z.set i z')) (hp:SlF w' 127 2 pairC z'.pv z'.nd.pairs) (hk:SlF w' 3 1 nat1 z'.kv z'.nd.kids) (hown:∀ b,zown z' b->zown z b\/w.heap.size<=b)
 (hpk:∀ b,z'.pv.ownBlock=some b->z'.kv.ownBlock≠some b):TreeR w' t nv fv (Z.set i z') fl root many where
 obj:=h.obj.fr hf fun s=>by
  rcases hS t s with e | e
  · exact h.a1.1 e
  exact (h.a2 i z t hz e).1 rfl
 nodes:=hn
 free:=h.free.fr hf fun b hb s=>by
  rcases hS b s with e | e
  · exact h.a1.2.2 b e hb
  exact (h.a2 i z b hz e).2.2 hb
 pairs j y hy:=by
  rcases zdv hy with ⟨_,rfl,_⟩ | ⟨hj,hy⟩
  · exact hp
  refine (h.pairs j y hy).fr hf fun b hb s=>?_
  rcases hS b s with e | e
  · exact (h.a2 j y b hy (.inl hb)).2.1 e
  exact hj (h.a4 j i y z b hy hz (.inl hb) e)
 kids j y hy:=by
  rcases zdv hy with ⟨_,rfl,_⟩ | ⟨hj,hy⟩
  · exact hk
  refine (h.kids j y hy).fr hf fun b hb s=>?_
  rcases hS b s with e | e
  · exact (h.a2 j y b hy (.inr hb)).2.1 e
  exact hj (h.a4 j i y z b hy hz (.inr hb) e)
 a1:=h.a1
 a2 j y b hy hb:=by
  rcases zdv hy with ⟨_,rfl,_⟩ | ⟨hj,hy⟩
  · rcases hown b hb with e | e
    · exact h.a2 i z b hz e
    refine ⟨fun e'=>?_,fun e'=>?_,fun e'=>?_⟩
    · have:=h.obj.lt;omega
    · have:=h.nodes.lt b e';omega
    have:=h.free.lt b e';omega
  exact h.a2 j y b hy hb
 a3 j y b hy hb:=by
  rcases zdv hy with ⟨_,rfl,_⟩ | ⟨hj,hy⟩
  · exact hpk b hb
  exact h.a3 j y b hy hb
 a4 j k y x b hy hx h1 h2:=by
  rcases zdv hy with ⟨ej,ey,_⟩ | ⟨hj,hy2⟩
  · rcases zdv hx with ⟨ek,ex,_⟩ | ⟨hk',hx2⟩
    · omega
    rw [ey] at h1
    rcases hown b h1 with e | e
    · rw [ej];exact h.a4 _ k z x b hz hx2 e h2
    have:=h.zlt hx2 h2;omega
  rcases zdv hx with ⟨ek,ex,_⟩ | ⟨hk',hx2⟩
  · rw [ex] at h2
    rcases hown b h2 with e | e
    · rw [ek];exact h.a4 j _ y z b hy2 hz h1 e
    have:=h.zlt hy2 h1;omega
  exact h.a4 j k y x b hy2 hx2 h1 h2
theorem zbs {i:Nat} {z z':Nz} {B:Nat} (hz:Z[i]? = some z) (hown:∀ b,zown z' b->zown z b\/B<=b):∀ b,treeF t nv fv (Z.set i z') b->treeF t nv fv Z b\/B<=b:=by
 rintro b (e | e | e | ⟨j,y,hy,hb⟩)
 · exact .inl (.inl e)
 · exact .inl (.inr (.inl e))
 · exact .inl (.inr (.inr (.inl e)))
 rcases zdv hy with ⟨_,rfl,_⟩ | ⟨_,hy⟩
 · rcases hown b hb with e | e
   · exact .inl (.inr (.inr (.inr ⟨i,z,hz,e⟩)))
   exact .inr e
 exact .inl (.inr (.inr (.inr ⟨j,y,hy,hb⟩)))
theorem TreeR.setPairs {w1:World} {nb no ncap:Nat} {pv':Value} {P':Pairs} (h:TreeR w t (.slice (some ⟨nb,no,none⟩) Z.length ncap) fv Z fl root many) (i:Nat) (z:Nz) (hz:Z[i]? = some z)
 (hf:Fr (fun b=>z.pv.ownBlock=some b) w w1) (hs:SlF w1 127 2 pairC pv' P') (hown:∀ b,pv'.ownBlock=some b->z.pv.ownBlock=some b\/w.heap.size<=b) :
 TreeR (w1.setCell ⟨nb,no+i * 2,none⟩ pv') t (.slice (some ⟨nb,no,none⟩) Z.length ncap) fv (Z.set i ⟨⟨P',z.nd.kids⟩,pv',z.kv⟩) fl root many ∧
  Fr (fun b=>b=nb\/z.pv.ownBlock=some b) w (w1.setCell ⟨nb,no+i * 2,none⟩ pv')/\(∀ b,zown ⟨⟨P',z.nd.kids⟩,pv',z.kv⟩ b->zown z b\/w.heap.size<=b):=by
 have hnl:=h.nodes.lt nb rfl;have hne:∀ b,zown z b->b≠nb:=fun b hb e=>(h.a2 i z b hz hb).2.1 (by rw [e];rfl)
 have hne':∀ b,pv'.ownBlock=some b->b≠nb:=fun b hb=>by
  rcases hown b hb with e | e
  · exact hne b (.inl e)
  omega
 have hzo:∀ b,zown ⟨⟨P',z.nd.kids⟩,pv',z.kv⟩ b->zown z b\/w.heap.size<=b:=by
  rintro b (e | e)
  · rcases hown b e with e | e
    · exact .inl (.inl e)
    exact .inr e
  exact .inl (.inr e)
 have hF:Fr (fun b=>b=nb\/z.pv.ownBlock=some b) w (w1.setCell ⟨nb,no+i * 2,none⟩ pv'):=(hf.mono fun b _ e=>.inr e).setCell (.inl (.inl rfl)) _;refine ⟨h.setNode i z _ hz hF (fun b e=>?_) ?_ (hs.other _ _ fun e=>hne' nb e rfl) ?_ hzo fun b e e'=>?_,hF,hzo⟩
 · rcases e with e | e
   · left;rw [e];rfl
   exact .inr (.inl e)
 · have h1:=h.nodes.fr hf fun b hb e=>(h.a2 i z b hz (.inl e)).2.1 hb
   have h2:=SlF.set zbq h1 i 0 (by omega) z ⟨⟨P',z.nd.kids⟩,pv',z.kv⟩ pv' hz rfl;rw [Nat.add_zero] at h2;unfold SlF at h2 ⊢
   rw [List.length_set] at h2 ⊢
   exact h2
 · exact ((h.kids i z hz).fr hf fun b hb e=>h.a3 i z b hz e hb).other _ _ fun e=>hne nb (.inr e) rfl
 rcases hown b e with e1 | e1
 · exact h.a3 i z b hz e1 e'
 have:=h.zlt hz (.inr e');omega
theorem TreeR.setKids {w1:World} {nb no ncap:Nat} {kv':Value} {K':List Nat} (h:TreeR w t (.slice (some ⟨nb,no,none⟩) Z.length ncap) fv Z fl root many) (i:Nat) (z:Nz) (hz:Z[i]? = some z)
 (hf:Fr (fun b=>z.kv.ownBlock=some b) w w1) (hs:SlF w1 3 1 nat1 kv' K') (hown:∀ b,kv'.ownBlock=some b->z.kv.ownBlock=some b\/w.heap.size<=b) :
 TreeR (w1.setCell ⟨nb,no+i * 2+1,none⟩ kv') t (.slice (some ⟨nb,no,none⟩) Z.length ncap) fv (Z.set i ⟨⟨z.nd.pairs,K'⟩,z.pv,kv'⟩) fl root many ∧
  Fr (fun b=>b=nb\/z.kv.ownBlock=some b) w (w1.setCell ⟨nb,no+i * 2+1,none⟩ kv')/\(∀ b,zown ⟨⟨z.nd.pairs,K'⟩,z.pv,kv'⟩ b->zown z b\/w.heap.size<=b):=by
 have hnl:=h.nodes.lt nb rfl;have hne:∀ b,zown z b->b≠nb:=fun b hb e=>(h.a2 i z b hz hb).2.1 (by rw [e];rfl)
 have hne':∀ b,kv'.ownBlock=some b->b≠nb:=fun b hb=>by
  rcases hown b hb with e | e
  · exact hne b (.inr e)
  omega
 have hzo:∀ b,zown ⟨⟨z.nd.pairs,K'⟩,z.pv,kv'⟩ b->zown z b\/w.heap.size<=b:=by
  rintro b (e | e)
  · exact .inl (.inl e)
  rcases hown b e with e | e
  · exact .inl (.inr e)
  exact .inr e
 have hF:Fr (fun b=>b=nb\/z.kv.ownBlock=some b) w (w1.setCell ⟨nb,no+i * 2+1,none⟩ kv'):=(hf.mono fun b _ e=>.inr e).setCell (.inl (.inl rfl)) _;refine ⟨h.setNode i z _ hz hF (fun b e=>?_) ?_ ?_ (hs.other _ _ fun e=>hne' nb e rfl) hzo fun b e e'=>?_,hF,hzo⟩
 · rcases e with e | e
   · left;rw [e];rfl
   exact .inr (.inr e)
 · have h1:=h.nodes.fr hf fun b hb e=>(h.a2 i z b hz (.inr e)).2.1 hb
   have h2:=SlF.set zbq h1 i 1 (by omega) z ⟨⟨z.nd.pairs,K'⟩,z.pv,kv'⟩ kv' hz rfl;unfold SlF at h2 ⊢
   rw [List.length_set] at h2 ⊢
   exact h2
 · exact ((h.pairs i z hz).fr hf fun b hb e=>h.a3 i z b hz hb e).other _ _ fun e=>hne nb (.inl e) rfl
 rcases hown b e' with e1 | e1
 · exact h.a3 i z b hz e e1
 have:=h.zlt hz (.inl e);omega
theorem TreeR.setPair {w1:World} {pb po pcap:Nat} {P':Pairs} (h:TreeR w t nv fv Z fl root many) (i:Nat) (z:Nz) (hz:Z[i]? = some z) (hpv:z.pv = .slice (some ⟨pb,po,none⟩) z.nd.pairs.length pcap)
 (hf:Fr (fun b=>b=pb) w w1) (hs:SlF w1 127 2 pairC z.pv P'):TreeR w1 t nv fv (Z.set i ⟨⟨P',z.nd.kids⟩,z.pv,z.kv⟩) fl root many:=by
 have hb0:z.pv.ownBlock=some pb:=by rw [hpv];rfl
 refine h.setNode i z _ hz hf (fun b e=>.inr (.inl (by rw [e];exact hb0))) ?_ hs ?_ (fun b e=>.inl e) (h.a3 i z · hz)
 · have h1:=h.nodes.fr hf fun b hb (e:b=pb)=>(h.a2 i z pb hz (.inl hb0)).2.1 (e ▸ hb)
   unfold SlF at h1 ⊢
   have e1:(Z.set i ⟨⟨P',z.nd.kids⟩,z.pv,z.kv⟩).flatMap nzC=Z.flatMap nzC:=by
    have hi:=(List.getElem?_eq_some_iff.1 hz).1;have:=znx zbq Z i 0 (by omega) z ⟨⟨P',z.nd.kids⟩,z.pv,z.kv⟩ z.pv hz rfl;rw [<-this];apply List.ext_getElem?;intro j;rw [List.getElem?_set]
    split
    · rename_i e
      subst e;have h3:=zgm zbq Z i 0 (by omega);rw [hz] at h3;have hl:=zal zbq Z;have:(i+1) * 2<=Z.length * 2:=Nat.mul_le_mul_right _ hi;rw [if_pos (by omega),h3]
      rfl
    rfl
   rw [List.length_set,e1];exact h1
 exact (h.kids i z hz).fr hf fun b hb (e:b=pb)=>h.a3 i z pb hz hb0 (e ▸ hb)
theorem TreeR.setObj (h:TreeR w t nv fv Z fl root many) (hf:Fr (fun b=>b=t) w w') (root':Nat) (many':Int) (ho:Has w' t [nv,fv,.int .i64 root',.int .i64 many']):TreeR w' t nv fv Z fl root' many' where
 obj:=ho
 nodes:=h.nodes.fr hf fun _b hb e=>h.a1.1 (e ▸ hb)
 free:=h.free.fr hf fun _b hb e=>h.a1.2.1 (e ▸ hb)
 pairs i z hz:=(h.pairs i z hz).fr hf fun b hb e=>(h.a2 i z b hz (.inl hb)).1 e
 kids i z hz:=(h.kids i z hz).fr hf fun b hb e=>(h.a2 i z b hz (.inr hb)).1 e
 a1:=h.a1
 a2:=h.a2
 a3:=h.a3
 a4:=h.a4
theorem TreeR.setFree {w1:World} {fv':Value} {fl':List Nat} (h:TreeR w t nv fv Z fl root many) (hf:Fr (fun b=>fv.ownBlock=some b) w w1) (hs:SlF w1 3 1 nat1 fv' fl') (hown:∀ b,fv'.ownBlock=some b->fv.ownBlock=some b\/w.heap.size<=b) :
 TreeR (w1.setCell ⟨t,1,none⟩ fv') t nv fv' Z fl' root many/\Fr (fun b=>b=t\/fv.ownBlock=some b) w (w1.setCell ⟨t,1,none⟩ fv')/\(∀ b,treeF t nv fv' Z b->treeF t nv fv Z b\/w.heap.size<=b):=by
 have htl:=h.obj.lt;have hF:Fr (fun b=>b=t\/fv.ownBlock=some b) w (w1.setCell ⟨t,1,none⟩ fv'):=(hf.mono fun b _ e=>.inr e).setCell (.inl (.inl rfl)) _
 have hne':∀ b,fv'.ownBlock=some b->b≠t/\nv.ownBlock≠some b/\∀ (i:Nat) z,Z[i]? = some z->¬ zown z b:=by
  intro b hb;rcases hown b hb with e | e
  · exact ⟨fun e'=>h.a1.2.1 (e' ▸ e),fun e'=>h.a1.2.2 b e' e,fun i z hz hz'=>(h.a2 i z b hz hz').2.2 e⟩
  exact ⟨by omega,fun e'=>by have:=h.nodes.lt b e';omega,fun i z hz hz'=>by have:=h.zlt hz hz';omega⟩
 refine ⟨⟨?_,?_,hs.other _ _ fun e=>(hne' t e).1 rfl,fun i z hz=>?_,fun i z hz=>?_,⟨h.a1.1,fun e=>(hne' t e).1 rfl,fun b e e'=>(hne' b e').2.1 e⟩,fun i z b hz hb=>?_,h.a3,h.a4⟩,hF,?_⟩
 · exact (h.obj.fr hf h.a1.2.1).set 1 fv'
 · exact h.nodes.fr hF fun b hb e=>by
    rcases e with e | e
    · exact h.a1.1 (e ▸ hb)
    exact h.a1.2.2 b hb e
 · exact (h.pairs i z hz).fr hF fun b hb e=>by
    rcases e with e | e
    · exact (h.a2 i z b hz (.inl hb)).1 e
    exact (h.a2 i z b hz (.inl hb)).2.2 e
 · exact (h.kids i z hz).fr hF fun b hb e=>by
    rcases e with e | e
    · exact (h.a2 i z b hz (.inr hb)).1 e
    exact (h.a2 i z b hz (.inr hb)).2.2 e
 · exact ⟨(h.a2 i z b hz hb).1,(h.a2 i z b hz hb).2.1,fun e=>(hne' b e).2.2 i z hz hb⟩
 rintro b (e | e | e | e)
 · exact .inl (.inl e)
 · exact .inl (.inr (.inl e))
 · rcases hown b e with e | e
   · exact .inl (.inr (.inr (.inl e)))
   exact .inr e
 exact .inl (.inr (.inr (.inr e)))
theorem TreeR.snoc {w1:World} {nv':Value} (h:TreeR w t nv fv Z fl root many) (hf:Fr (fun b=>nv.ownBlock=some b) w w1) (hs:SlF w1 198 2 nzC nv' (Z++[⟨nd0,.slice none 0 0,.slice none 0 0⟩]))
 (hown:∀ b,nv'.ownBlock=some b->nv.ownBlock=some b\/w.heap.size<=b) :
 TreeR (w1.setCell ⟨t,0,none⟩ nv') t nv' fv (Z++[⟨nd0,.slice none 0 0,.slice none 0 0⟩]) fl root many/\Fr (fun b=>b=t\/nv.ownBlock=some b) w (w1.setCell ⟨t,0,none⟩ nv') ∧
  (∀ b,treeF t nv' fv (Z++[⟨nd0,.slice none 0 0,.slice none 0 0⟩]) b->treeF t nv fv Z b\/w.heap.size<=b):=by
 have htl:=h.obj.lt;have hF:Fr (fun b=>b=t\/nv.ownBlock=some b) w (w1.setCell ⟨t,0,none⟩ nv'):=(hf.mono fun b _ e=>.inr e).setCell (.inl (.inl rfl)) _
 have hne':∀ b,nv'.ownBlock=some b->b≠t/\fv.ownBlock≠some b/\∀ (i:Nat) z,Z[i]? = some z->¬ zown z b:=by
  intro b hb;rcases hown b hb with e | e
  · exact ⟨fun e'=>h.a1.1 (e' ▸ e),h.a1.2.2 b e,fun i z hz hz'=>(h.a2 i z b hz hz').2.1 e⟩
  exact ⟨by omega,fun e'=>by have:=h.free.lt b e';omega,fun i z hz hz'=>by have:=h.zlt hz hz';omega⟩
 have hcase:∀ (i:Nat) z,(Z++[⟨nd0,.slice none 0 0,.slice none 0 0⟩])[i]? = some z->Z[i]? = some z\/z=⟨nd0,.slice none 0 0,.slice none 0 0⟩:=by
  intro i z hz;rcases Nat.lt_or_ge i Z.length with hi | hi
  · rw [List.getElem?_append_left hi] at hz;exact .inl hz
  rw [List.getElem?_append_right hi] at hz
  right
  have:=List.mem_of_getElem? hz;simpa using this
 have hnil:∀ b,¬ zown ⟨nd0,.slice none 0 0,.slice none 0 0⟩ b:=by
  rintro b (e | e) <;> simp [Value.ownBlock] at e
 refine ⟨⟨?_,hs.other _ _ fun e=>(hne' t e).1 rfl,?_,fun i z hz=>?_,fun i z hz=>?_,⟨fun e=>(hne' t e).1 rfl,h.a1.2.1,fun b e=>(hne' b e).2.1⟩,fun i z b hz hb=>?_,fun i z b hz hb=>?_,fun i j z y b hz hy h1 h2=>?_⟩,hF,?_⟩
 · exact (h.obj.fr hf h.a1.1).set 0 nv'
 · exact h.free.fr hF fun b hb e=>by
    rcases e with e | e
    · exact h.a1.2.1 (e ▸ hb)
    exact h.a1.2.2 b e hb
 · rcases hcase i z hz with hz | rfl
   · exact (h.pairs i z hz).fr hF fun b hb e=>by
      rcases e with e | e
      · exact (h.a2 i z b hz (.inl hb)).1 e
      exact (h.a2 i z b hz (.inl hb)).2.1 e
   exact SlF.nil _ _ _ _
 · rcases hcase i z hz with hz | rfl
   · exact (h.kids i z hz).fr hF fun b hb e=>by
      rcases e with e | e
      · exact (h.a2 i z b hz (.inr hb)).1 e
      exact (h.a2 i z b hz (.inr hb)).2.1 e
   exact SlF.nil _ _ _ _
 · rcases hcase i z hz with hz | rfl
   · exact ⟨(h.a2 i z b hz hb).1,fun e=>(hne' b e).2.2 i z hz hb,(h.a2 i z b hz hb).2.2⟩
   exact absurd hb (hnil b)
 · rcases hcase i z hz with hz | rfl
   · exact h.a3 i z b hz hb
   simp [Value.ownBlock] at hb
 · rcases hcase i z hz with hz | rfl
   · rcases hcase j y hy with hy | rfl
     · exact h.a4 i j z y b hz hy h1 h2
     exact absurd h2 (hnil b)
   exact absurd h1 (hnil b)
 rintro b (e | e | e | ⟨i,z,hz,hb⟩)
 · exact .inl (.inl e)
 · rcases hown b e with e | e
   · exact .inl (.inr (.inl e))
   exact .inr e
 · exact .inl (.inr (.inr (.inl e)))
 rcases hcase i z hz with hz | rfl
 · exact .inl (.inr (.inr (.inr ⟨i,z,hz,hb⟩)))
 exact absurd hb (hnil b)
end
def ndsZ (Z:List Nz):Arr:=Z.map (·.nd)
theorem zti {Z:List Nz} {i:Nat} {z:Nz} (h:Z[i]? = some z):ndA (ndsZ Z) i=z.nd:=by unfold ndA ndsZ;rw [List.getElem?_map,h];rfl
theorem zaz (Z:List Nz):(ndsZ Z).length=Z.length:=by unfold ndsZ;simp
theorem zch (Z:List Nz) (i:Nat) (z:Nz):ndsZ (Z.set i z)=(ndsZ Z).set i z.nd:=by unfold ndsZ;rw [List.map_set]
theorem zdt {Z:List Nz} {i:Nat} (h:i < (ndsZ Z).length):∃ z,Z[i]? = some z/\ndA (ndsZ Z) i=z.nd:=by
 rw [zaz] at h;exact ⟨Z[i],List.getElem?_eq_getElem h,zti (List.getElem?_eq_getElem h)⟩
def TreeZ (w:World) (t:Nat) (A:Arr) (fr:List Nat) (root:Nat) (many:Int) (F:Nat->Prop):Prop :=
 ∃ nv fv Z,TreeR w t nv fv Z fr root many/\ndsZ Z=A/\∀ b,F b ↔ treeF t nv fv Z b
theorem TreeZ.lt {w:World} {t:Nat} {A:Arr} {fr:List Nat} {root:Nat} {many:Int} {F:Nat->Prop} (h:TreeZ w t A fr root many F):∀ b,F b->b < w.heap.size:=by
 obtain ⟨nv,fv,Z,h,_,hF⟩:=h;exact fun b hb=>h.lt b ((hF b).1 hb)
theorem TreeZ.fr {w w':World} {t:Nat} {A:Arr} {fr:List Nat} {root:Nat} {many:Int} {F S:Nat->Prop} (h:TreeZ w t A fr root many F) (hf:Fr S w w') (hn:∀ b,F b->¬ S b):TreeZ w' t A fr root many F:=by
 obtain ⟨nv,fv,Z,h,h2,hF⟩:=h;exact ⟨nv,fv,Z,h.fr hf fun b hb=>hn b ((hF b).2 hb),h2,hF⟩
theorem TreeZ.fr0 {w w':World} {t:Nat} {A:Arr} {fr:List Nat} {root:Nat} {many:Int} {F:Nat->Prop} (h:TreeZ w t A fr root many F) (hf:Fr No w w'):TreeZ w' t A fr root many F:=h.fr hf fun _ _ s=>s
end Go.Proofs.Ythljnnjpmdgkoaa
