/- Own lemmas. -/
import Derived.WalkKit
import Derived.WalkLawsBesides
import Derived.WalkSpells
import Derived.Lib.Hide
import Derived.Deep.LoopGhost
import Derived.BigQuiet
import Derived.Deep.QuietTactic
import Derived.Lib.Strings
import Derived.Sort.Walk0
import Derived.Test.YtdgkdfmfoonbpaaGreatProg
import Derived.Outline
namespace Go.Proofs.YtdgkdfmfoonbpaaGreat
open Go Go.RowKit
theorem H_ {p:Prop} (h:p):Hid p:=Lib.hid h
structure Fr (S:Nat->Prop) (w w':World):Prop where
 os:w'.os=w.os
 tape:w'.tape=w.tape
 output:w'.output=w.output
 size:w.heap.size<=w'.heap.size
 block:∀ k,k<w.heap.size->¬ S k->w'.heap[k]?=w.heap[k]?
def No:Nat->Prop:=fun _=>False
theorem Fr.refl (S:Nat->Prop) (w:World):Fr S w w:=⟨rfl,rfl,rfl,Nat.le_refl _,fun _ _ _=>rfl⟩
theorem Fr.mono {S T:Nat->Prop} {w w':World} (h:Fr S w w') (hs:∀ k,k<w.heap.size->S k->T k):Fr T w w' :=
 ⟨h.os,h.tape,h.output,h.size,fun k hk ht=>h.block k hk fun s=>ht (hs k hk s)⟩
theorem Fr.trans {S T:Nat->Prop} {a b c:World} (h:Fr S a b) (k:Fr T b c) (hs:∀ j,j<a.heap.size->T j->S j):Fr S a c :=
 ⟨k.os.trans h.os,k.tape.trans h.tape,k.output.trans h.output,Nat.le_trans h.size k.size,
   fun j hj hS=>(k.block j (Nat.lt_of_lt_of_le hj h.size) fun t=>hS (hs j hj t)).trans (h.block j hj hS)⟩
theorem Fr.trans0 {S:Nat->Prop} {a b c:World} (h:Fr S a b) (k:Fr No b c):Fr S a c:=h.trans k fun _ _ t=>t.elim
theorem Fr.alloc {S:Nat->Prop} {a w:World} (h:Fr S a w) (o:Obj):Fr S a (w.alloc o) :=
 ⟨h.os,h.tape,h.output,Nat.le_trans h.size (by simp),fun k hk hS=>(Below.heap_alloc w o k (Nat.lt_of_lt_of_le hk h.size)).trans (h.block k hk hS)⟩
theorem Fr.drew {S:Nat->Prop} {a w:World} (h:Fr S a w):Fr S a w.drew:=⟨h.os,h.tape,h.output,h.size,h.block⟩
theorem Fr.drewN (S:Nat->Prop) (w:World) (n:Nat):Fr S w (w.drewN n):=⟨rfl,rfl,rfl,Nat.le_refl _,fun _ _ _=>rfl⟩
theorem Fr.free0 {w w':World} (h:Fr No w w') {p:Addr} {v:Value} (hc:w.cell? p=some v) (hf:w.frozen? p=false):w'.frozen? p=false :=
 (World.frozen?_of_block (h.block p.block (World.block_lt_of_cell? w p hc) id)).trans hf
theorem Fr.setCell {S:Nat->Prop} {a w:World} (h:Fr S a w) {p:Addr} (hp:S p.block\/a.heap.size<=p.block) (u:Value):Fr S a (w.setCell p u) :=
 ⟨h.os,h.tape,h.output,by simpa using h.size,fun k hk hS=>(Below.heap_setCell w p u k (by rcases hp with hp | hp
                                                                                          · exact fun e=>hS (e▸hp)
                                                                                          omega)).trans (h.block k hk hS)⟩
theorem Fr.grown {S:Nat->Prop} {a w w':World} {row:Option Nat} (h:Fr S a w) (hg:w.grownBy w' row) (hr:∀ k,row=some k->S k\/a.heap.size<=k):Fr S a w' :=
 ⟨hg.os.trans h.os,hg.tape.trans h.tape,hg.output.trans h.output,Nat.le_trans h.size hg.size,
   fun k hk hS=>(hg.block k (Nat.lt_of_lt_of_le hk h.size) fun e=>by rcases hr k e.symm with h1 | h1
                                                                     · exact hS h1
                                                                     omega).trans (h.block k hk hS)⟩
theorem Fr.below {S:Nat->Prop} {w w':World} (h:Fr S w w') (B:Nat) (hB:B<=w.heap.size) (hs:∀ k,S k->B<=k):Below B w w' :=
 ⟨h.os,h.tape,h.output,h.size,fun k hk=>h.block k (by omega) fun s=>by have:=hs k s;omega⟩
theorem Fr.below0 {w w':World} (h:Fr No w w'):Below w.heap.size w w':=h.below _ (Nat.le_refl _) fun _ s=>s.elim
theorem Fr.of_below {S:Nat->Prop} {w w':World} (h:Below w.heap.size w w'):Fr S w w' :=
 ⟨h.os,h.tape,h.output,h.size,fun k hk _=>h.block k hk⟩
theorem Fr.heap {S:Nat->Prop} {w w':World} (h:Fr S w w') {b:Nat} {o:Obj} (hb:w.heap[b]?=some o) (hn:¬ S b):w'.heap[b]?=some o :=
 (h.block b (Array.getElem?_eq_some_iff.1 hb).1 hn).trans hb
theorem Fr.cell {S:Nat->Prop} {w w':World} (h:Fr S w w') {p:Addr} {v:Value} (hc:w.cell? p=some v) (hn:¬ S p.block):w'.cell? p=some v :=
 (World.cell?_of_block (h.block p.block (World.block_lt_of_cell? w p hc) hn)).trans hc
theorem Fr.cell0 {w w':World} (h:Fr No w w') {p:Addr} {v:Value} (hc:w.cell? p=some v):w'.cell? p=some v:=h.cell hc fun s=>s
theorem Fr.free {S:Nat->Prop} {w w':World} (h:Fr S w w') {p:Addr} {v:Value} (hc:w.cell? p=some v) (hf:w.frozen? p=false) (hn:¬ S p.block):w'.frozen? p=false :=
 (World.frozen?_of_block (h.block p.block (World.block_lt_of_cell? w p hc) hn)).trans hf
theorem zac {w:World} {b:Nat} {o:Obj} (h:w.heap[b]?=some o):b<w.heap.size:=(Array.getElem?_eq_some_iff.1 h).1
theorem zab {w:World} {b:Nat} {c:Array Value} {e:TypeId} {fr:Nat×Nat} (h:w.heap[b]?=some (.cells c e fr)) (i:Nat) (v:Value) :
 (w.setCell ⟨b,i,none⟩ v).heap[b]?=some (.cells (c.setIfInBounds i v) e fr):=by
 unfold World.setCell;simp only;rw [Array.getElem?_modify,if_pos rfl,h]
 rfl
theorem zaq {w:World} {b:Nat} {x:Obj} (h:w.heap[b]?=some x) (o:Obj):(w.alloc o).heap[b]?=some x:=(Below.heap_alloc w o b (zac h)).trans h
theorem zae (w:World) (o:Obj) (n:Nat) (hn:n=w.heap.size):(w.alloc o).heap[n]?=some o:=by subst hn;exact heap_alloc_new w o
theorem cellAt {w:World} {b:Nat} {cs:Array Value} {e:TypeId} {fr:Nat×Nat} (h:w.heap[b]?=some (.cells cs e fr)) (i:Nat) {v:Value} (hi:cs[i]?=some v):w.cell? ⟨b,i,none⟩=some v:=by
 unfold World.cell?;simp [h,hi]
theorem cells4 {w:World} {b:Nat} {v0 v1 v2 v3:Value} {e:TypeId} {fr:Nat×Nat} (h:w.heap[b]?=some (.cells #[v0,v1,v2,v3] e fr)):w.cell? ⟨b,0,none⟩=some v0/\w.cell? ⟨b,1,none⟩=some v1/\w.cell? ⟨b,2,none⟩=some v2/\w.cell? ⟨b,3,none⟩=some v3:=⟨cellAt h 0 rfl,cellAt h 1 rfl,cellAt h 2 rfl,cellAt h 3 rfl⟩
theorem cells5 {w:World} {b:Nat} {v0 v1 v2 v3 v4:Value} {e:TypeId} {fr:Nat×Nat} (h:w.heap[b]?=some (.cells #[v0,v1,v2,v3,v4] e fr)):w.cell? ⟨b,0,none⟩=some v0/\w.cell? ⟨b,1,none⟩=some v1/\w.cell? ⟨b,2,none⟩=some v2/\w.cell? ⟨b,3,none⟩=some v3/\w.cell? ⟨b,4,none⟩=some v4:=⟨cellAt h 0 rfl,cellAt h 1 rfl,cellAt h 2 rfl,cellAt h 3 rfl,cellAt h 4 rfl⟩
theorem cells6 {w:World} {b:Nat} {v0 v1 v2 v3 v4 v5:Value} {e:TypeId} {fr:Nat×Nat} (h:w.heap[b]?=some (.cells #[v0,v1,v2,v3,v4,v5] e fr)):w.cell? ⟨b,0,none⟩=some v0/\w.cell? ⟨b,1,none⟩=some v1/\w.cell? ⟨b,2,none⟩=some v2/\w.cell? ⟨b,3,none⟩=some v3/\w.cell? ⟨b,4,none⟩=some v4/\w.cell? ⟨b,5,none⟩=some v5:=⟨cellAt h 0 rfl,cellAt h 1 rfl,cellAt h 2 rfl,cellAt h 3 rfl,cellAt h 4 rfl,cellAt h 5 rfl⟩
theorem cells7 {w:World} {b:Nat} {v0 v1 v2 v3 v4 v5 v6:Value} {e:TypeId} {fr:Nat×Nat} (h:w.heap[b]?=some (.cells #[v0,v1,v2,v3,v4,v5,v6] e fr)):w.cell? ⟨b,0,none⟩=some v0/\w.cell? ⟨b,1,none⟩=some v1/\w.cell? ⟨b,2,none⟩=some v2/\w.cell? ⟨b,3,none⟩=some v3/\w.cell? ⟨b,4,none⟩=some v4/\w.cell? ⟨b,5,none⟩=some v5/\w.cell? ⟨b,6,none⟩=some v6:=⟨cellAt h 0 rfl,cellAt h 1 rfl,cellAt h 2 rfl,cellAt h 3 rfl,cellAt h 4 rfl,cellAt h 5 rfl,cellAt h 6 rfl⟩
theorem cells10 {w:World} {b:Nat} {v0 v1 v2 v3 v4 v5 v6 v7 v8 v9:Value} {e:TypeId} {fr:Nat×Nat} (h:w.heap[b]?=some (.cells #[v0,v1,v2,v3,v4,v5,v6,v7,v8,v9] e fr)):w.cell? ⟨b,0,none⟩=some v0/\w.cell? ⟨b,1,none⟩=some v1/\w.cell? ⟨b,2,none⟩=some v2/\w.cell? ⟨b,3,none⟩=some v3/\w.cell? ⟨b,4,none⟩=some v4/\w.cell? ⟨b,5,none⟩=some v5/\w.cell? ⟨b,6,none⟩=some v6/\w.cell? ⟨b,7,none⟩=some v7/\w.cell? ⟨b,8,none⟩=some v8/\w.cell? ⟨b,9,none⟩=some v9:=⟨cellAt h 0 rfl,cellAt h 1 rfl,cellAt h 2 rfl,cellAt h 3 rfl,cellAt h 4 rfl,cellAt h 5 rfl,cellAt h 6 rfl,cellAt h 7 rfl,cellAt h 8 rfl,cellAt h 9 rfl⟩
theorem cells12 {w:World} {b:Nat} {v0 v1 v2 v3 v4 v5 v6 v7 v8 v9 v10 v11:Value} {e:TypeId} {fr:Nat×Nat} (h:w.heap[b]?=some (.cells #[v0,v1,v2,v3,v4,v5,v6,v7,v8,v9,v10,v11] e fr)):w.cell? ⟨b,0,none⟩=some v0/\w.cell? ⟨b,1,none⟩=some v1/\w.cell? ⟨b,2,none⟩=some v2/\w.cell? ⟨b,3,none⟩=some v3/\w.cell? ⟨b,4,none⟩=some v4/\w.cell? ⟨b,5,none⟩=some v5/\w.cell? ⟨b,6,none⟩=some v6/\w.cell? ⟨b,7,none⟩=some v7/\w.cell? ⟨b,8,none⟩=some v8/\w.cell? ⟨b,9,none⟩=some v9/\w.cell? ⟨b,10,none⟩=some v10/\w.cell? ⟨b,11,none⟩=some v11:=⟨cellAt h 0 rfl,cellAt h 1 rfl,cellAt h 2 rfl,cellAt h 3 rfl,cellAt h 4 rfl,cellAt h 5 rfl,cellAt h 6 rfl,cellAt h 7 rfl,cellAt h 8 rfl,cellAt h 9 rfl,cellAt h 10 rfl,cellAt h 11 rfl⟩
theorem cells13 {w:World} {b:Nat} {v0 v1 v2 v3 v4 v5 v6 v7 v8 v9 v10 v11 v12:Value} {e:TypeId} {fr:Nat×Nat} (h:w.heap[b]?=some (.cells #[v0,v1,v2,v3,v4,v5,v6,v7,v8,v9,v10,v11,v12] e fr)):w.cell? ⟨b,0,none⟩=some v0/\w.cell? ⟨b,1,none⟩=some v1/\w.cell? ⟨b,2,none⟩=some v2/\w.cell? ⟨b,3,none⟩=some v3/\w.cell? ⟨b,4,none⟩=some v4/\w.cell? ⟨b,5,none⟩=some v5/\w.cell? ⟨b,6,none⟩=some v6/\w.cell? ⟨b,7,none⟩=some v7/\w.cell? ⟨b,8,none⟩=some v8/\w.cell? ⟨b,9,none⟩=some v9/\w.cell? ⟨b,10,none⟩=some v10/\w.cell? ⟨b,11,none⟩=some v11/\w.cell? ⟨b,12,none⟩=some v12:=⟨cellAt h 0 rfl,cellAt h 1 rfl,cellAt h 2 rfl,cellAt h 3 rfl,cellAt h 4 rfl,cellAt h 5 rfl,cellAt h 6 rfl,cellAt h 7 rfl,cellAt h 8 rfl,cellAt h 9 rfl,cellAt h 10 rfl,cellAt h 11 rfl,cellAt h 12 rfl⟩
def Has (w:World) (b:Nat) (cs:List Value):Prop:=∃ e,w.heap[b]?=some (.cells cs.toArray e (0,0))
theorem Has.lt {w:World} {b:Nat} {cs:List Value} (h:Has w b cs):b<w.heap.size:=h.elim fun _=>zac
theorem Has.cell {w:World} {b:Nat} {cs:List Value} (h:Has w b cs) (i:Nat) {v:Value} (hi:cs[i]?=some v):w.cell? ⟨b,i,none⟩=some v:=by
 obtain ⟨e,h⟩:=h;simp [World.cell?,h,hi]
theorem Has.free {w:World} {b:Nat} {cs:List Value} (h:Has w b cs) (i:Nat):w.frozen? ⟨b,i,none⟩=false:=by
 obtain ⟨e,h⟩:=h;simp [World.frozen?,h]
theorem Has.set {w:World} {b:Nat} {cs:List Value} (h:Has w b cs) (i:Nat) (v:Value):Has (w.setCell ⟨b,i,none⟩ v) b (cs.set i v):=by
 obtain ⟨e,h⟩:=h;exact ⟨e,by rw [zab h];simp⟩
theorem Has.other {w:World} {b:Nat} {cs:List Value} (h:Has w b cs) (p:Addr) (v:Value) (hp:b≠p.block):Has (w.setCell p v) b cs:=by
 obtain ⟨e,h⟩:=h;exact ⟨e,(Below.heap_setCell w p v b hp).trans h⟩
theorem Has.drew {w:World} {b:Nat} {cs:List Value} (h:Has w b cs):Has w.drew b cs:=h
theorem Has.new (w:World) (cs:List Value) (e:TypeId):Has (w.alloc (.cells cs.toArray e)) w.heap.size cs:=⟨e,heap_alloc_new w _⟩
theorem Has.fr {w w':World} {b:Nat} {cs:List Value} {S:Nat->Prop} (h:Has w b cs) (hf:Fr S w w') (hn:¬ S b):Has w' b cs:=by
 obtain ⟨e,h⟩:=h;exact ⟨e,hf.heap h hn⟩
def Sl (w:World) (e:TypeId) (sz:Nat) (v:Value) (n:Nat) (xs:List Value):Prop :=
 xs.length=n * sz ∧
 ((v=.slice none 0 0/\n=0) ∨
  ∃ g o cap cur,v=.slice (some ⟨g,o,none⟩) n cap/\w.heap[g]?=some (.cells cur e (0,0))/\n<=cap/\cap<=maxLen/\o+cap * sz<=cur.size/\(cur.toList.drop o).take (n * sz)=xs)
theorem Sl.nil (w:World) (e:TypeId) (sz:Nat):Sl w e sz (.slice none 0 0) 0 []:=⟨by simp,.inl ⟨rfl,rfl⟩⟩
theorem Sl.lt {w:World} {e:TypeId} {sz:Nat} {v:Value} {n:Nat} {xs:List Value} (h:Sl w e sz v n xs):∀ k,v.ownBlock=some k->k<w.heap.size:=by
 intro k a;rcases h.2 with ⟨rfl,_⟩ | ⟨g,o,cap,b,rfl,c,_⟩
 · simp [Value.ownBlock] at a
 simp [Value.ownBlock] at a
 subst a;exact zac c
theorem Sl.keep {w w':World} {e:TypeId} {sz:Nat} {v:Value} {n:Nat} {xs:List Value} (h:Sl w e sz v n xs) (hk:∀ k,v.ownBlock=some k->w'.heap[k]?=w.heap[k]?):Sl w' e sz v n xs:=by
 refine ⟨h.1,?_⟩;rcases h.2 with d | ⟨g,o,cap,b,rfl,c,a⟩
 · exact .inl d
 exact .inr ⟨g,o,cap,b,rfl,(hk g rfl).trans c,a⟩
theorem Sl.fr {w w':World} {e:TypeId} {sz:Nat} {v:Value} {n:Nat} {xs:List Value} {S:Nat->Prop} (h:Sl w e sz v n xs) (hf:Fr S w w') (hn:∀ k,v.ownBlock=some k->¬ S k):Sl w' e sz v n xs :=
 h.keep fun k hk=>hf.block k (h.lt k hk) (hn k hk)
theorem Sl.fr0 {w w':World} {e:TypeId} {sz:Nat} {v:Value} {n:Nat} {xs:List Value} (h:Sl w e sz v n xs) (hf:Fr No w w'):Sl w' e sz v n xs:=h.fr hf fun _ _ s=>s
theorem Sl.alloc {w:World} {e:TypeId} {sz:Nat} {v:Value} {n:Nat} {xs:List Value} (h:Sl w e sz v n xs) (o:Obj):Sl (w.alloc o) e sz v n xs :=
 h.keep fun k hk=>Below.heap_alloc w o k (h.lt k hk)
theorem Sl.other {w:World} {e:TypeId} {sz:Nat} {v:Value} {n:Nat} {xs:List Value} (h:Sl w e sz v n xs) (p:Addr) (u:Value) (hp:v.ownBlock≠some p.block):Sl (w.setCell p u) e sz v n xs :=
 h.keep fun k hk=>Below.heap_setCell w p u k fun e=>hp (e▸hk)
theorem Sl.shape {w:World} {e:TypeId} {sz:Nat} {v:Value} {n:Nat} {xs:List Value} (h:Sl w e sz v n xs):∃ a cap,v=.slice a n cap/\n<=cap/\cap<=maxLen/\(0<n->∃ g o,a=some ⟨g,o,none⟩):=by
 rcases h.2 with ⟨rfl,rfl⟩ | ⟨g,o,cap,b,rfl,_,c,d,_⟩
 · exact ⟨none,0,rfl,by omega,by omega,by omega⟩
 exact ⟨_,cap,rfl,c,d,fun _=>⟨g,o,rfl⟩⟩
theorem Sl.cell {w:World} {e:TypeId} {sz:Nat} {g o n cap:Nat} {xs:List Value} (h:Sl w e sz (.slice (some ⟨g,o,none⟩) n cap) n xs) (j:Nat) {u:Value} (hu:xs[j]?=some u):w.cell? ⟨g,o+j,none⟩=some u:=by
 rcases h.2 with ⟨c,_⟩ | ⟨k,r,a,b,i,f,l,m,q,d⟩
 · cases c
 cases i
 rw [<-d,List.getElem?_take] at hu
 split at hu
 · rw [List.getElem?_drop] at hu
   simp [World.cell?,f];simpa using hu
 cases hu
theorem Sl.free {w:World} {e:TypeId} {sz:Nat} {g o n cap:Nat} {xs:List Value} (h:Sl w e sz (.slice (some ⟨g,o,none⟩) n cap) n xs) (j:Nat):w.frozen? ⟨g,j,none⟩=false:=by
 rcases h.2 with ⟨c,_⟩ | ⟨i,k,a,b,f,d,_⟩
 · cases c
 cases f
 simp [World.frozen?,d]
theorem Sl.set {w:World} {e:TypeId} {sz:Nat} {g o n cap:Nat} {xs:List Value} (h:Sl w e sz (.slice (some ⟨g,o,none⟩) n cap) n xs) (j:Nat) (hj:j<n * sz) (u:Value) :
 Sl (w.setCell ⟨g,o+j,none⟩ u) e sz (.slice (some ⟨g,o,none⟩) n cap) n (xs.set j u):=by
 refine ⟨by simpa using h.1,?_⟩;rcases h.2 with ⟨f,_⟩ | ⟨s,t,b,a,r,q,c,k,l,m⟩
 · cases f
 cases r
 have d:n * sz<=cap * sz:=Nat.mul_le_mul_right _ c;refine .inr ⟨g,o,cap,a.setIfInBounds (o+j) u,rfl,zab q _ _,c,k,by simpa using l,?_⟩;subst m;apply List.ext_getElem?;intro i;rw [List.getElem?_take,List.getElem?_set,List.getElem?_take];by_cases hi:i<n * sz
 · rw [if_pos hi,if_pos hi,List.getElem?_drop,List.getElem?_drop,Array.toList_setIfInBounds,List.getElem?_set]
   by_cases hij:j=i
   · subst hij
     rw [if_pos rfl,if_pos rfl,if_pos (by simp;omega),if_pos (by simp;omega)]
   rw [if_neg (by omega),if_neg hij]
 rw [if_neg hi,if_neg hi,if_neg (by omega)]
theorem Sl.take {w:World} {e:TypeId} {sz:Nat} {a:Option Addr} {n cap:Nat} {xs:List Value} (h:Sl w e sz (.slice a n cap) n xs) (k:Nat) (hk:k<=n):Sl w e sz (.slice a k cap) k (xs.take (k * sz)):=by
 have r:k * sz<=n * sz:=Nat.mul_le_mul_right _ hk;refine ⟨by rw [List.length_take,h.1];omega,?_⟩;rcases h.2 with ⟨f,_⟩ | ⟨d,o,c,b,m,l,q,g,i,j⟩
 · cases f
   obtain rfl:k=0:=by omega
   exact .inl ⟨rfl,rfl⟩
 cases m
 refine .inr ⟨d,o,cap,b,rfl,l,by omega,g,i,?_⟩;rw [<-j,List.take_take]
 congr 1
 omega
theorem zcb {P:Program} (w:World) (t ty e:TypeId) (i:TypeInfo) (z:Value) (ht:P.underlying t=some (.slice e)) (hi:P.info? e=some i) (hz:i.zero=some z) (hzs:z.cells.size=i.size) (_hsz:0<i.size)
 (v:Value) (n:Nat) (xs:List Value) (hown:Sl w e i.size v n xs)
 (a:Addr) (m c:Nat) (news:List Value) (hl:news.length=m * i.size) (hm:0<m) (hnews:∀ j u,news[j]?=some u->w.cell? (a.add j)=some u) (h1:∀ u∈news,u.oneCell'=true)
 (h63:n+m<=maxLen) (hbytes:(n+m) * i.bytes<=140737488355328) :
 ∃ g o cap w',(Builtin.append_ #[t,t] ty #[v,.slice (some a) m c]).run P w=.ok (.slice (some ⟨g,o,none⟩) (n+m) cap) w'/\Sl w' e i.size (.slice (some ⟨g,o,none⟩) (n+m) cap) (n+m) (xs++news)/\w.grownBy w' v.ownBlock ∧
  (v.ownBlock=some g\/g=w.heap.size)/\g<w'.heap.size:=by
 have B:n+m<=9223372036854775807:=by simp only [maxLen] at h63;omega
 have f:(xs++news).length=(n+m) * i.size:=by rw [List.length_append,hown.1,hl,Nat.add_mul]
 have grown:∀ (d:Nat),d<n+m->∀ (A:Option Nat),
  Sl (w.drew.alloc (.cells (xs.toArray++news.toArray++Builtin.zeroCells z.cells (grownCap w (n+m) d e-(n+m))) e)) e i.size
   (.slice (some ⟨w.heap.size,0,none⟩) (n+m) (grownCap w (n+m) d e)) (n+m) (xs++news) ∧
  w.grownBy (w.drew.alloc (.cells (xs.toArray++news.toArray++Builtin.zeroCells z.cells (grownCap w (n+m) d e-(n+m))) e)) A:=by
  intro d N A;have D:=grownCap_ge w (n+m) d e;have r:grownCap w (n+m) d e<=maxLen:=grownCap_le_maxLen w (n+m) d e h63;refine ⟨⟨f,.inr ⟨w.heap.size,0,_,_,rfl,heap_alloc_new w.drew _,D,r,?_,?_⟩⟩,⟨rfl,rfl,rfl,by simp,fun k hk _=>Below.heap_alloc w.drew _ k hk⟩⟩
  · simp only [Array.size_append,List.size_toArray,size_zeroCells,hzs,hown.1,hl,<-Nat.add_mul]
    rw [Nat.zero_add];apply Nat.mul_le_mul_right;omega
  simp only [Array.toList_append,List.append_assoc,List.drop_zero]
  rw [<-List.append_assoc,<-f];exact List.take_left
 rcases hown.2 with ⟨rfl,rfl⟩ | ⟨g,o,cap,b,rfl,C,L,r,J,x⟩
 · have M:xs = []:=List.eq_nil_of_length_eq_zero (by simpa using hown.1)
   subst M;have F:=run_append_nil (P:=P) w t ty e i z ht hi hz a m c news hl hnews (by omega) (by omega) (by have I:=hbytes;simp only [Nat.zero_add] at I;omega);have l:=grown 0 (by omega) (Value.ownBlock (.slice none 0 0));simp only [Nat.zero_add,List.nil_append,Array.empty_append] at l ⊢
   exact ⟨_,_,_,_,F,l.1,l.2,.inr rfl,by simp⟩
 by_cases hroom:n+m<=cap
 · have G:n * i.size+news.length<=cap * i.size:=by rw [hl,<-Nat.add_mul];exact Nat.mul_le_mul_right _ hroom
   have K:=run_firstCells_some (P:=P) w i.size m a m c news hl hnews;have y:=run_storeCells_at P g (o+n * i.size) e news 0 b w C (by simpa using (by omega:o+n * i.size+news.length<=b.size)) h1;simp only [Nat.add_zero] at y;refine ⟨g,o,cap,w.setRow g (b.toList.take (o+n * i.size)++news++b.toList.drop (o+n * i.size+news.length)).toArray,?_,⟨f,.inr ⟨g,o,cap,_,rfl,setRow_heap w g b _ e _ C,hroom,r,?_,?_⟩⟩,⟨rfl,rfl,rfl,by simp,fun k _ hk=>setRow_other w g k _ (fun e=>hk (by simp [Value.ownBlock,e]))⟩,.inl rfl,by simpa using zac C⟩
   · have q:(⟨g,o,none⟩:Addr).add (n * i.size)=⟨g,o+n * i.size,none⟩:=by unfold Addr.add;split <;> simp_all
     simp [Builtin.append_,run_underlying ht,sizeOf,typeInfo,hi,Builtin.lenOf,hroom,K,q,y]
   · simp only [List.size_toArray,List.length_append,List.length_take,List.length_drop,Array.length_toList]
     omega
   have H:(b.toList.take (o+n * i.size)).drop o=xs:=by rw [<-x,List.drop_take];congr 1;omega
   have E:o<=(b.toList.take (o+n * i.size)).length:=(by simp only [List.length_take,Array.length_toList];omega)
   show ((b.toList.take (o+n * i.size)++news++b.toList.drop (o+n * i.size+news.length)).drop o).take ((n+m) * i.size)=xs++news
   rw [List.append_assoc,List.drop_append_of_le_length E,H,<-f,<-List.append_assoc];exact List.take_left
 have s:∀ j u,xs[j]?=some u->w.cell? ((⟨g,o,none⟩:Addr).add j)=some u:=fun j u hu=>by
  have q:(⟨g,o,none⟩:Addr).add j=⟨g,o+j,none⟩:=(by unfold Addr.add;split <;> simp_all);rw [q];exact hown.cell j hu
 have F:=run_append_grow (P:=P) w t ty e i z ht hi hz ⟨g,o,none⟩ n cap xs hown.1 s a m c news hl hnews (by omega) (by omega) (growslice_fits (by omega) hbytes);have l:=grown cap (by omega) (Value.ownBlock (.slice (some ⟨g,o,none⟩) n cap));exact ⟨_,_,_,_,F,l.1,l.2,.inr rfl,by simp⟩
theorem zel {P:Program} {w:World} {ops:Array Oper} {rest:List Oper} {o:Oper} {a:Act} {Q:Exit->Act->World->Prop} (hgd:o.guard=none) (s x:Operand) (t:TypeId)
 (ho:o.op=.call { callee:=.builtin .append,args:=#[s,x],argTypes:=#[t,t] })
 (e:TypeId) (i:TypeInfo) (z:Value) (sz bytes:Nat) (ht:P.underlying t=some (.slice e)) (hi:P.info? e=some i) (hz:i.zero=some z) (hsize:i.size=sz) (hby:i.bytes=bytes) (hzs:z.cells.size=sz) (hsz:0<sz)
 (v:Value) (n:Nat) (xs:List Value) (hs:a.eval s=v) (hown:Sl w e sz v n xs)
 (ad:Addr) (m c:Nat) (news:List Value) (hx:a.eval x=.slice (some ad) m c) (hl:news.length=m * sz) (hm:0<m) (hnews:∀ j u,news[j]?=some u->w.cell? (ad.add j)=some u) (h1:∀ u∈news,u.oneCell'=true)
 (h63:n+m<=maxLen) (hbytes:(n+m) * bytes<=140737488355328)
 (h:∀ g o' cap w',Sl w' e sz (.slice (some ⟨g,o',none⟩) (n+m) cap) (n+m) (xs++news)->w.grownBy w' v.ownBlock->(v.ownBlock=some g\/g=w.heap.size)->g<w'.heap.size →
   wpList P ops Q rest (a.put o.dst (.slice (some ⟨g,o',none⟩) (n+m) cap)) w'):wpList P ops Q (o :: rest) a w:=by
 subst hsize;subst hby;refine wpList_plain hgd fun _ hK=>?_;obtain ⟨g,o',cap,w',l,b,d,f,k⟩:=zcb (P:=P) w t o.type e i z ht hi hz hzs hsz v n xs hown ad m c news hl hm hnews h1 h63 hbytes;unfold Oper.wp execOp;simp only [ho,resolve,invoke,builtin,Sem.run_bind,Sem.run_pure,Result.andThen_ok,List.map_toArray,List.map_cons,List.map_nil,hs,hx,l];exact hK _ _ (h g o' cap w' b d f k)
theorem zav (w:World) (cs:List Value) (e:TypeId) (fr:Nat×Nat):∀ j u,cs[j]?=some u->(w.alloc (.cells cs.toArray e fr)).cell? ((⟨w.heap.size,0,none⟩:Addr).add j)=some u:=by
 intro j u b;have a:(⟨w.heap.size,0,none⟩:Addr).add j=⟨w.heap.size,j,none⟩:=by unfold Addr.add;split <;> simp_all
 have:=heap_alloc_new w (.cells cs.toArray e fr);rw [a];unfold World.cell?;simp only;rw [this];simpa using b
/-! Lists of records, laid out flat. -/
section
variable {α:Type} {f:α->List Value} {sz:Nat}
theorem zak (hf:∀ x,(f x).length=sz) (L:List α):(L.flatMap f).length=L.length * sz:=by
 induction L with
 | nil=>simp
 | cons x L ih=>rw [List.flatMap_cons,List.length_append,ih,hf,List.length_cons,Nat.succ_mul];omega
theorem zkm (hf:∀ x,(f x).length=sz) (L:List α) (i j:Nat) (hj:j<sz):(L.flatMap f)[i * sz+j]?=(L[i]?).bind fun x=>(f x)[j]?:=by
 induction L generalizing i with
 | nil=>simp
 | cons x L ih =>
   rw [List.flatMap_cons]
   cases i with
   | zero=>rw [List.getElem?_append_left (by rw [hf];omega)];simp
   | succ i =>
     rw [List.getElem?_append_right (by rw [hf,Nat.succ_mul];omega),hf,show (i+1) * sz+j-sz=i * sz+j from by rw [Nat.succ_mul];omega,ih];simp
theorem zdl (hf:∀ x,(f x).length=sz) (L:List α) (k:Nat):(L.flatMap f).take (k * sz)=(L.take k).flatMap f:=by
 induction L generalizing k with
 | nil=>simp
 | cons x L ih =>
   cases k with
   | zero=>simp
   | succ k =>
     rw [List.flatMap_cons,List.take_succ_cons,List.flatMap_cons,List.take_append,hf,show (k+1) * sz-sz=k * sz from by rw [Nat.succ_mul];omega,ih,
      List.take_of_length_le (by rw [hf,Nat.succ_mul];omega)]
theorem zpf (hf:∀ x,(f x).length=sz) (L:List α) (i j:Nat) (hj:j<sz) (x x':α) (u:Value) (hx:L[i]?=some x) (hx':f x'=(f x).set j u) :
 (L.flatMap f).set (i * sz+j) u=(L.set i x').flatMap f:=by
 induction L generalizing i with
 | nil=>simp at hx
 | cons y L ih =>
   rw [List.flatMap_cons]
   cases i with
   | zero =>
     simp at hx;subst hx;rw [List.set_append_left _ _ (by rw [hf];omega)];simp [hx']
   | succ i =>
     simp at hx;rw [List.set_append_right _ _ (by rw [hf,Nat.succ_mul];omega),hf,show (i+1) * sz+j-sz=i * sz+j from by rw [Nat.succ_mul];omega,ih i hx];simp
end
def SlF {α:Type} (w:World) (e sz:Nat) (f:α->List Value) (v:Value) (L:List α):Prop:=Sl w e sz v L.length (L.flatMap f)
section
variable {α:Type} {f:α->List Value} {w:World} {e sz:Nat} {v:Value} {L:List α}
theorem SlF.nil (w:World) (e sz:Nat) (f:α->List Value):SlF w e sz f (.slice none 0 0) []:=Sl.nil w e sz
theorem SlF.fr {w':World} {S:Nat->Prop} (h:SlF w e sz f v L) (hf:Fr S w w') (hn:∀ k,v.ownBlock=some k->¬ S k):SlF w' e sz f v L:=Sl.fr h hf hn
theorem SlF.fr0 {w':World} (h:SlF w e sz f v L) (hf:Fr No w w'):SlF w' e sz f v L:=Sl.fr0 h hf
theorem SlF.alloc (h:SlF w e sz f v L) (o:Obj):SlF (w.alloc o) e sz f v L:=Sl.alloc h o
theorem SlF.drew (h:SlF w e sz f v L):SlF w.drew e sz f v L:=h
theorem SlF.other (h:SlF w e sz f v L) (p:Addr) (u:Value) (hp:v.ownBlock≠some p.block):SlF (w.setCell p u) e sz f v L:=Sl.other h p u hp
theorem SlF.lt (h:SlF w e sz f v L):∀ k,v.ownBlock=some k->k<w.heap.size:=Sl.lt h
theorem SlF.shape (h:SlF w e sz f v L):∃ a cap,v=.slice a L.length cap/\L.length<=cap/\cap<=maxLen/\(0<L.length->∃ g o,a=some ⟨g,o,none⟩):=Sl.shape h
theorem SlF.cell {g o cap:Nat} (hf:∀ x,(f x).length=sz) (h:SlF w e sz f (.slice (some ⟨g,o,none⟩) L.length cap) L) (i j:Nat) {x:α} {u:Value} (hx:L[i]?=some x) (hu:(f x)[j]?=some u) :
 w.cell? ⟨g,o+i * sz+j,none⟩=some u:=by
 have a:j<sz:=by have:=(List.getElem?_eq_some_iff.1 hu).1;rwa [hf] at this
 rw [Nat.add_assoc];exact Sl.cell h _ (by rw [zkm hf L i j a,hx];exact hu)
theorem SlF.cell0 {g o cap:Nat} (hf:∀ x,(f x).length=sz) (h:SlF w e sz f (.slice (some ⟨g,o,none⟩) L.length cap) L) (i:Nat) {x:α} {u:Value} (hx:L[i]?=some x) (hu:(f x)[0]?=some u) :
 w.cell? ⟨g,o+i * sz,none⟩=some u:=h.cell hf i 0 hx hu
theorem SlF.cell1 {g o cap:Nat} (hf:∀ x,(f x).length=1) (h:SlF w e 1 f (.slice (some ⟨g,o,none⟩) L.length cap) L) (i:Nat) {x:α} {u:Value} (hx:L[i]?=some x) (hu:(f x)[0]?=some u) :
 w.cell? ⟨g,o+i,none⟩=some u:=by
 have:=h.cell0 hf i hx hu
 rwa [Nat.mul_one] at this
theorem SlF.free {g o cap:Nat} (h:SlF w e sz f (.slice (some ⟨g,o,none⟩) L.length cap) L) (j:Nat):w.frozen? ⟨g,j,none⟩=false:=Sl.free h j
theorem SlF.set {g o cap:Nat} (hf:∀ x,(f x).length=sz) (h:SlF w e sz f (.slice (some ⟨g,o,none⟩) L.length cap) L) (i j:Nat) (hj:j<sz) (x x':α) (u:Value) (hx:L[i]?=some x) (hx':f x'=(f x).set j u) :
 SlF (w.setCell ⟨g,o+i * sz+j,none⟩ u) e sz f (.slice (some ⟨g,o,none⟩) L.length cap) (L.set i x'):=by
 have a:=(List.getElem?_eq_some_iff.1 hx).1;unfold SlF;rw [<-zpf hf L i j hj x x' u hx hx',List.length_set,Nat.add_assoc];refine Sl.set h _ ?_ u;have:(i+1) * sz<=L.length * sz:=Nat.mul_le_mul_right _ a;rw [Nat.succ_mul] at this;omega
theorem SlF.take {a:Option Addr} {cap:Nat} (hf:∀ x,(f x).length=sz) (h:SlF w e sz f (.slice a L.length cap) L) (k:Nat) (hk:k<=L.length):SlF w e sz f (.slice a k cap) (L.take k):=by
 have:=Sl.take h k hk;rw [zdl hf] at this;unfold SlF
 rwa [List.length_take,Nat.min_eq_left hk]
end
theorem zao {α:Type} {f:α->List Value} {P:Program} {w:World} {ops:Array Oper} {rest:List Oper} {o:Oper} {a:Act} {Q:Exit->Act->World->Prop} (hgd:o.guard=none) (s x:Operand) (t:TypeId)
 (ho:o.op=.call { callee:=.builtin .append,args:=#[s,x],argTypes:=#[t,t] })
 (e:TypeId) (i:TypeInfo) (z:Value) (sz bytes:Nat) (ht:P.underlying t=some (.slice e)) (hi:P.info? e=some i) (hz:i.zero=some z) (hsize:i.size=sz) (hby:i.bytes=bytes) (hzs:z.cells.size=sz) (hsz:0<sz)
 (v:Value) (L:List α) (hs:a.eval s=v) (hown:SlF w e sz f v L)
 (b c:Nat) (y:α) (hx:a.eval x=.slice (some ⟨b,0,none⟩) 1 c) (hnews:∀ j u,(f y)[j]?=some u->w.cell? ((⟨b,0,none⟩:Addr).add j)=some u) (hl:(f y).length=sz) (h1:∀ u∈f y,u.oneCell'=true)
 (h63:L.length+1<=maxLen) (hbytes:(L.length+1) * bytes<=140737488355328)
 (h:∀ g o' cap w',SlF w' e sz f (.slice (some ⟨g,o',none⟩) (L.length+1) cap) (L++[y])->w.grownBy w' v.ownBlock->(v.ownBlock=some g\/g=w.heap.size)->g<w'.heap.size →
   wpList P ops Q rest (a.put o.dst (.slice (some ⟨g,o',none⟩) (L.length+1) cap)) w'):wpList P ops Q (o :: rest) a w:=by
 refine zel hgd s x t ho e i z sz bytes ht hi hz hsize hby hzs hsz v L.length (L.flatMap f) hs hown ⟨b,0,none⟩ 1 c (f y) hx (by omega) (by omega) hnews h1 h63 hbytes ?_;intro g o' cap w' d k l m;refine h g o' cap w' ?_ k l m;unfold SlF;simpa using d
def int1 (n:Int):List Value:=[.int .i64 n]
theorem zbj (n:Int):(int1 n).length=1:=rfl
def klt (a b:ByteArray):Bool:=Op.bytesLess a.toList b.toList
def keq (a b:ByteArray):Bool:=a.toList==b.toList
theorem zat {a b:ByteArray}:keq a b=true↔a=b:=by
 unfold keq;rw [beq_iff_eq,Lib.toList_data,Lib.toList_data]
 constructor
 · intro h
   cases a;cases b
   simp at h;simp [h]
 rintro rfl;rfl
theorem zdz {a b:ByteArray}:klt a b=true↔a.data.toList<b.data.toList:=by
 unfold klt;rw [Go.Proofs.bytesLess_eq,decide_eq_true_eq,Lib.toList_data,Lib.toList_data]
theorem zca (a:ByteArray):klt a a=false:=by
 rw [Bool.eq_false_iff];intro h;exact List.lt_irrefl _ (zdz.1 h)
theorem zbx {a b c:ByteArray} (h:klt a b=true) (h':klt b c=true):klt a c=true:=zdz.2 (List.lt_trans (zdz.1 h) (zdz.1 h'))
theorem zev {a b:ByteArray} (h:klt a b=true):klt b a=false:=by
 rw [Bool.eq_false_iff];intro c;have:=zbx h c;rw [zca] at this;cases this
theorem klt_ne {a b:ByteArray} (h:klt a b=true):keq a b=false:=by
 rw [Bool.eq_false_iff];intro c;obtain rfl:=zat.1 c;rw [zca] at h;cases h
theorem zkf (a b:ByteArray):klt a b=true\/a=b\/klt b a=true:=by
 by_cases h:a.data.toList<b.data.toList
 · exact .inl (zdz.2 h)
 by_cases h':b.data.toList<a.data.toList
 · exact .inr (.inr (zdz.2 h'))
 right;left
 have:=List.le_antisymm (List.not_lt.1 h') (List.not_lt.1 h);cases a;cases b
 simp at this;simp [this]
theorem zsp {a b:ByteArray} (h:klt a b=false) (h':keq a b=false):klt b a=true:=by
 rcases zkf a b with c | c | c
 · rw [h] at c;cases c
 · rw [zat.2 c] at h';cases h'
 exact c
theorem zcw (a b:ByteArray):keq a b=keq b a:=by
 rw [Bool.eq_iff_iff,zat,zat];exact eq_comm
theorem zgz {a b c:ByteArray} (h:klt b a=false) (h':klt b c=true):klt a c=true:=by
 rcases zkf a b with d | rfl | d
 · exact zbx d h'
 · exact h'
 rw [h] at d;cases d
abbrev Pairs:=List (ByteArray×Int)
def Sorted (T:Pairs):Prop:=T.Pairwise fun p q=>klt p.1 q.1=true
def spotOf (T:Pairs) (key:ByteArray):Nat:=T.findIdx fun p=>!klt p.1 key
def hitOf (T:Pairs) (key:ByteArray):Bool:=match T[spotOf T key]? with
 | some p=>keq p.1 key
 | none=>false
def getT (T:Pairs) (key:ByteArray):Int×Bool:=match T.find? fun p=>keq p.1 key with
 | some p=>(p.2,true)
 | none=>(0,false)
def insT (T:Pairs) (key:ByteArray) (n:Int):Pairs:=match T with
 | []=>[(key,n)]
 | p :: T=>if klt p.1 key then p :: insT T key n else if keq p.1 key then (key,n) :: T else (key,n) :: p :: T
def delT (T:Pairs) (key:ByteArray):Pairs:=T.filter fun p=>!keq p.1 key
def rangeT (T:Pairs) (frm tO:ByteArray):Pairs:=T.filter fun p=>!klt p.1 frm&&(tO.toList.isEmpty||klt p.1 tO)
theorem zbm (T:Pairs) (key:ByteArray):spotOf T key<=T.length:=List.findIdx_le_length
theorem zsy (T:Pairs) (hT:Sorted T) (key:ByteArray) (n:Int) :
 insT T key n=if hitOf T key then T.set (spotOf T key) (key,n) else T.take (spotOf T key)++(key,n) :: T.drop (spotOf T key):=by
 induction T with
 | nil=>simp [insT,hitOf,spotOf]
 | cons p T ih =>
   have c:Sorted T:=(List.pairwise_cons.1 hT).2;by_cases h:klt p.1 key=true
   · have a:spotOf (p :: T) key=spotOf T key+1:=by simp [spotOf,List.findIdx_cons,h]
     have b:hitOf (p :: T) key=hitOf T key:=(by simp [hitOf,a]);rw [a,b];simp only [insT,h,if_true,ih c];by_cases h2:hitOf T key=true <;> simp [h2]
   simp only [Bool.not_eq_true] at h
   have a:spotOf (p :: T) key=0:=(by simp [spotOf,List.findIdx_cons,h]);have b:hitOf (p :: T) key=keq p.1 key:=(by simp [hitOf,a]);rw [a,b];simp only [insT,h,Bool.false_eq_true,if_false];by_cases h2:keq p.1 key=true <;> simp [h2]
theorem zkk (T:Pairs) (hT:Sorted T) (key:ByteArray):getT T key=if hitOf T key then ((T[spotOf T key]?.getD default).2,true) else (0,false):=by
 induction T with
 | nil=>simp [getT,hitOf,spotOf]
 | cons p T ih =>
   have c:Sorted T:=(List.pairwise_cons.1 hT).2;by_cases h:klt p.1 key=true
   · have a:spotOf (p :: T) key=spotOf T key+1:=by simp [spotOf,List.findIdx_cons,h]
     have b:hitOf (p :: T) key=hitOf T key:=(by simp [hitOf,a]);have d:getT (p :: T) key=getT T key:=(by simp [getT,klt_ne h]);rw [a,b,d,ih c];simp
   simp only [Bool.not_eq_true] at h
   have a:spotOf (p :: T) key=0:=(by simp [spotOf,List.findIdx_cons,h]);have b:hitOf (p :: T) key=keq p.1 key:=(by simp [hitOf,a]);rw [a,b];by_cases h2:keq p.1 key=true
   · simp [getT,h2]
   simp only [Bool.not_eq_true] at h2
   have f:(T.find? fun p=>keq p.1 key)=none:=by
    rw [List.find?_eq_none];intro q g;have:=(List.pairwise_cons.1 hT).1 q g;have e:=zbx (zsp h h2) this;rw [zcw,klt_ne e];simp
   simp [getT,h2,f]
theorem zil (T:Pairs) (hT:Sorted T) (key:ByteArray) (n:Int):Sorted (insT T key n)/\∀ q∈insT T key n,q∈T\/q.1=key:=by
 induction T with
 | nil=>simp [insT,Sorted]
 | cons p T ih =>
   obtain ⟨f,c⟩:=List.pairwise_cons.1 hT;obtain ⟨g,d⟩:=ih c;by_cases h:klt p.1 key=true
   · simp only [insT,h,if_true]
     refine ⟨List.pairwise_cons.2 ⟨fun q hq=>?_,g⟩,fun q hq=>?_⟩
     · rcases d q hq with a | a
       · exact f q a
       rw [a];exact h
     rcases List.mem_cons.1 hq with rfl | a
     · simp
     rcases d q a with b | b <;> simp [b]
   simp only [Bool.not_eq_true] at h
   by_cases b:keq p.1 key=true
   · simp only [insT,h,b,Bool.false_eq_true,if_false,if_true]
     have e:=zat.1 b;refine ⟨List.pairwise_cons.2 ⟨fun q hq=>?_,c⟩,fun q hq=>?_⟩
     · have:=f q hq;rw [e] at this;exact this
     rcases List.mem_cons.1 hq with rfl | a
     · simp
     simp [a]
   simp only [Bool.not_eq_true] at b
   simp only [insT,h,b,Bool.false_eq_true,if_false];have e:=zsp h b;refine ⟨List.pairwise_cons.2 ⟨fun q hq=>?_,hT⟩,fun q hq=>?_⟩
   · rcases List.mem_cons.1 hq with rfl | a
     · exact e
     exact zbx e (f q a)
   rcases List.mem_cons.1 hq with rfl | a
   · simp
   left;exact a
theorem zdm (T:Pairs) (hT:Sorted T) (frm:ByteArray):T.drop (spotOf T frm)=T.filter fun p=>!klt p.1 frm:=by
 induction T with
 | nil=>simp
 | cons p T ih =>
   obtain ⟨f,b⟩:=List.pairwise_cons.1 hT;by_cases h:klt p.1 frm=true
   · have a:spotOf (p :: T) frm=spotOf T frm+1:=by simp [spotOf,List.findIdx_cons,h]
     rw [a,List.drop_succ_cons,ih b,List.filter_cons];simp [h]
   simp only [Bool.not_eq_true] at h
   have a:spotOf (p :: T) frm=0:=(by simp [spotOf,List.findIdx_cons,h]);rw [a,List.drop_zero]
   symm
   rw [List.filter_eq_self];intro q c;rcases List.mem_cons.1 c with rfl | c
   · simp [h]
   have d:=f q c
   have:klt q.1 frm=false:=by
    rw [Bool.eq_false_iff];intro e;rw [zbx d e] at h;cases h
   simp [this]
theorem Sorted.filter {T:Pairs} (hT:Sorted T) (f:ByteArray×Int->Bool):Sorted (T.filter f):=List.Pairwise.filter f hT
def ahead (tO:ByteArray) (p:ByteArray×Int):Bool:=tO.toList.isEmpty||klt p.1 tO
theorem zmj (D:Pairs) (hD:Sorted D) (tO:ByteArray):D.filter (ahead tO)=D.takeWhile (ahead tO):=by
 induction D with
 | nil=>simp
 | cons p D ih =>
   obtain ⟨d,a⟩:=List.pairwise_cons.1 hD;rw [List.filter_cons,List.takeWhile_cons];by_cases h:ahead tO p=true
   · simp [h,ih a]
   simp only [h]
   simp only [Bool.not_eq_true] at h;simp only [Bool.false_eq_true,if_false];rw [List.filter_eq_nil_iff];intro q e;have b:=d q e;unfold ahead at *;simp only [Bool.or_eq_false_iff] at h;simp only [h.1,Bool.false_or,Bool.not_eq_true];rw [Bool.eq_false_iff];intro c;rw [zbx b c] at h;cases h.2
theorem zlm (T:Pairs) (hT:Sorted T) (frm tO:ByteArray):rangeT T frm tO=(T.drop (spotOf T frm)).takeWhile (ahead tO):=by
 rw [zdm T hT,<-zmj _ (hT.filter _),List.filter_filter];unfold rangeT ahead
 congr 1
 funext p
 rw [Bool.and_comm]
theorem ziz {α:Type} {p:α->Bool} {l a r:List α} {x:α} (h:l=a++x :: r) (ha:∀ y∈a,p y=true) (hx:p x=false):l.takeWhile p=a:=by
 subst h
 induction a with
 | nil=>simp [hx]
 | cons y a ih =>
   rw [List.cons_append,List.takeWhile_cons,ha y (by simp)];simp only [if_true];rw [ih fun z hz=>ha z (by simp [hz])]
theorem zfv {α:Type} {p:α->Bool} {l:List α} (h:∀ y∈l,p y=true):l.takeWhile p=l:=by
 induction l with
 | nil=>rfl
 | cons y l ih=>rw [List.takeWhile_cons,h y (by simp)];simp only [if_true];rw [ih fun z hz=>h z (by simp [hz])]
open Go Go.Proofs Go.RowKit
set_option maxRecDepth 100000
def pairC (p:ByteArray×Int):List Value:=[.string p.1,.int .i64 p.2]
theorem zad (p:ByteArray×Int):(pairC p).length=2:=rfl
def nodeC (p:Value×Value):List Value:=[p.1,p.2]
theorem zlv (p:Value×Value):(nodeC p).length=2:=rfl
def Before (T:Pairs) (key:ByteArray) (i:Nat):Prop:=∀ j:Nat,j<i->∀ p,T[j]?=some p->klt p.1 key=true
theorem zlf {T:Pairs} {key:ByteArray} {i:Nat} (h:Before T key i) (hi:i=T.length\/∃ p,T[i]?=some p/\klt p.1 key=false):spotOf T key=i:=by
 unfold spotOf
 have e:∀ j,j<i->j<T.length->(!klt (T[j]?.getD default).1 key)=false:=by
  intro j a b;have:=h j a _ (List.getElem?_eq_getElem b);simp [b,this]
 rcases hi with rfl | ⟨p,f,g⟩
 · rw [List.findIdx_eq_length]
   intro x k;obtain ⟨j,a,rfl⟩:=List.getElem_of_mem k;have:=h j a _ (List.getElem?_eq_getElem a);simp [this]
 have c:=(List.getElem?_eq_some_iff.1 f).1
 rw [List.findIdx_eq c];have d:=(List.getElem?_eq_some_iff.1 f).2;refine ⟨by rw [d];simp [g],fun j a=>?_⟩;have:=h j a _ (List.getElem?_eq_getElem (by omega));simp [this]
def zbq (T:Pairs) (key:ByteArray):Value:=.tuple #[.int .i64 (spotOf T key),.bool (hitOf T key)]
theorem zpr (w:World) (t at_:Nat) (nv:Value) (pv kv:Value) (N:List (Value×Value)) (T:Pairs) (key:ByteArray)
 (ht:w.cell? ⟨t,0,none⟩=some nv) (hN:SlF w 194 2 nodeC nv N) (hat:N[at_]?=some (pv,kv)) (hn:N.length<=1099511627776)
 (hT:SlF w 125 2 pairC pv T) (hl:T.length<=1099511627776) :
 Calls Tryz.prog 134 #[.pointer (some ⟨t,0,none⟩),.int .i64 at_,.string key] w fun e w'=>e=.returned (zbq T key)/\w=w':=by
 have H:=(List.getElem?_eq_some_iff.1 hat).1;obtain ⟨J,y,rfl,D,E,f⟩:=hN.shape;obtain ⟨K,no,rfl⟩:=f (by omega);obtain ⟨L,z,rfl,F,G,k⟩:=hT.shape;have s:=hN.cell0 zlv at_ hat rfl;have x:(at_:Int)<(N.length:Int):=by omega
 have C:=H_ hT;have A:=H_ k;clear hN hat f hT k;go_enter Tryz.func134,Tryz.ntmps134;go_wp2
 go_step3
 go_wp2
 go_step3
 go_wp2
 go_loopg [8,9] T.length (fun g s8 _ wr=>∃ i:Nat,s8=.int .i64 i/\i+g=T.length/\Hid (Before T key i)/\w=wr)
 case atStart=>exact ⟨0,rfl,by simp,H_ (fun j hj=>by omega),rfl⟩
 case round =>
  obtain ⟨i,rfl,I,m,rfl⟩:=hrel
  cases gk with
  | zero =>
    have r:((i:Int)==(T.length:Int))=true:=(by simp;omega);have b:spotOf T key=i:=zlf m.out (.inl (by omega));have a:hitOf T key=false:=(by unfold hitOf;rw [b,List.getElem?_eq_none (by omega)]);have l:=H_ b;have d:=H_ a;clear b a;go_wp2;rw [Exit.noGoto_ret]
    go_ret2
    exact ⟨by unfold zbq;rw [l.out,d.out];rfl,rfl⟩
  | succ g =>
    obtain ⟨M,O,rfl⟩:=A.out (by omega);obtain ⟨p,u⟩:∃ p,T[i]?=some p:=⟨_,List.getElem?_eq_getElem (by omega)⟩;have o:=C.out.cell0 zad i u rfl;have r:((i:Int)==(T.length:Int))=false:=(by simp;omega);have v:(i:Int)<(T.length:Int):=(by omega);have n:=H_ u;clear u;by_cases h1:klt p.1 key=true
    · have c:=klt_ne h1
      have B:=H_ h1;unfold klt at h1;unfold keq at c;go_wp2;go_roundg g
      case rel=>exact ⟨i+1,by go_num,by omega,H_ (fun j hj q hq=>by
       by_cases hji:j=i
       · subst hji;rw [n.out] at hq;cases hq;exact B.out
       exact m.out j (by omega) q hq),rfl⟩
      case measure=>omega
    simp only [Bool.not_eq_true] at h1
    have b:spotOf T key=i:=zlf m.out (.inr ⟨p,n.out,h1⟩);have a:hitOf T key=keq p.1 key:=(by unfold hitOf;rw [b,n.out]);have l:=H_ b;clear b;by_cases c:keq p.1 key=true
    · rw [c] at a
      have d:=H_ a;clear a;unfold klt at h1;unfold keq at c;go_wp2;rw [Exit.noGoto_ret]
      go_ret2
      exact ⟨by unfold zbq;rw [l.out,d.out];rfl,rfl⟩
    simp only [Bool.not_eq_true] at c
    rw [c] at a;have d:=H_ a;clear a;unfold klt at h1;unfold keq at c;go_wp2;rw [Exit.noGoto_ret]
    go_ret2
    exact ⟨by unfold zbq;rw [l.out,d.out];rfl,rfl⟩
def zcg (r:Int×Bool):Value:=.tuple #[.int .i64 r.1,.bool r.2]
end Go.Proofs.YtdgkdfmfoonbpaaGreat