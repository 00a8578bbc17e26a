/- Own lemmas. -/
import Derived.Test.YtdgkdfmfoonbpaaGreatR00
import Derived.Test.YtdgkdfmfoonbpaaGreatR04
import Derived.Test.YtdgkdfmfoonbpaaGreatProg
import Derived.Outline
import Derived.StillTailTactics
namespace Go.Proofs.YtdgkdfmfoonbpaaGreat
open Go Go.Proofs Go.RowKit
set_option maxRecDepth 100000
structure Gen where
 create:Int
 cut:Int
 puts:List Int
 end_:Int
def genC (p:Gen×Value):List Value:=[.int .i64 p.1.create,.int .i64 p.1.cut,p.2,.int .i64 p.1.end_]
theorem zaj (p:Gen×Value):(genC p).length=4:=rfl
structure KeyRep (w:World) (g:Nat) (gv:Value) (Z:List (Gen×Value)) (last:Int):Prop where
 obj:Has w g [gv,.int .i64 last]
 gens:SlF w 187 4 genC gv Z
 puts:∀ (i:Nat) p,Z[i]?=some p->SlF w 3 1 int1 p.2 p.1.puts
 apart:∀ (i:Nat) p,Z[i]?=some p->∀ b,p.2.ownBlock=some b->b≠g/\gv.ownBlock≠some b
 apart2:∀ (i j:Nat) p q,Z[i]?=some p->Z[j]?=some q->∀ b,p.2.ownBlock=some b->q.2.ownBlock=some b->i=j
 own:gv.ownBlock≠some g
def keyF (g:Nat) (gv:Value) (Z:List (Gen×Value)) (b:Nat):Prop:=b=g\/gv.ownBlock=some b\/∃ (i:Nat) (p:Gen×Value),Z[i]?=some p/\p.2.ownBlock=some b
def isOpen (K:List Gen):Bool:=match K.getLast? with
 | some x=>x.end_==0
 | none=>false
theorem zsl (w:World) (g:Nat) (gv:Value) (Z:List (Gen×Value)) (last:Int) (h:KeyRep w g gv Z last) (ho:isOpen (Z.map (·.1))=false) (hl:Z.length<=1099511627776) :
 Calls Tryz.prog 160 #[.pointer (some ⟨g,0,none⟩)] w fun e w'=>e=.returned (.pointer none)/\w=w':=by
 obtain ⟨a,cap,rfl,f,i,d⟩:=h.gens.shape;have k:=h.obj.cell 0 rfl;by_cases hz:Z.length=0
 · obtain rfl:=List.eq_nil_of_length_eq_zero hz
   go_enter Tryz.func160,Tryz.ntmps160;go_wp2;go_ret;exact ⟨rfl,rfl⟩
 obtain ⟨o,go,rfl⟩:=d (by omega)
 have c:Z[Z.length-1]?=some (Z[Z.length-1]'(by omega)):=List.getElem?_eq_getElem (by omega);have j:=h.gens.cell zaj (Z.length-1) 3 c rfl;have l:(0:Int)<(Z.length:Int):=(by omega)
 have b:((Z[Z.length-1]'(by omega)).1.end_==0)=false:=by
  unfold isOpen at ho;rw [List.getLast?_map,List.getLast?_eq_getElem?,c] at ho;exact ho
 generalize (Z[Z.length-1]'(by omega)).1.end_=m at j b;clear h c d ho;generalize Z.length=n at *;go_enter Tryz.func160,Tryz.ntmps160;go_wp2;go_ret;exact ⟨rfl,rfl⟩
theorem zib (w:World) (g gb go cap:Nat) (Z:List (Gen×Value)) (last:Int) (h:KeyRep w g (.slice (some ⟨gb,go,none⟩) Z.length cap) Z last) (ho:isOpen (Z.map (·.1))=true) (hl:Z.length<=1099511627776) :
 Calls Tryz.prog 160 #[.pointer (some ⟨g,0,none⟩)] w fun e w'=>e=.returned (.pointer (some ⟨gb,go+(Z.length-1) * 4,none⟩))/\w=w':=by
 have j:=h.obj.cell 0 rfl
 have c:Z.length≠0:=by
  intro c;obtain rfl:=List.eq_nil_of_length_eq_zero c;simp [isOpen] at ho
 have b:Z[Z.length-1]?=some (Z[Z.length-1]'(by omega)):=List.getElem?_eq_getElem (by omega);have i:=h.gens.cell zaj (Z.length-1) 3 b rfl;have l:(0:Int)<(Z.length:Int):=by omega
 have a:((Z[Z.length-1]'(by omega)).1.end_==0)=true:=by
  unfold isOpen at ho;rw [List.getLast?_map,List.getLast?_eq_getElem?,b] at ho;exact ho
 obtain ⟨_,_,k,d,f,_⟩:=h.gens.shape;cases k
 generalize (Z[Z.length-1]'(by omega)).1.end_=m at i a;clear h b ho;generalize Z.length=n at *;go_enter Tryz.func160,Tryz.ntmps160;go_wp2;go_ret;exact ⟨rfl,rfl⟩
theorem info3:(Tryz.prog.info? 3).map (fun i=>(i.zero,i.size,i.bytes))=some (some (.int .i64 0),1,8):=by kernel_rfl
theorem info190:(Tryz.prog.info? 187).map (fun i=>(i.zero,i.size,i.bytes))=some (some (.agg #[.int .i64 0,.int .i64 0,.slice none 0 0,.int .i64 0]),4,48):=by kernel_rfl
theorem zsg {w w1:World} {g gb go cap pb po pc:Nat} {Z:List (Gen×Value)} {last rev:Int} {x:Gen} {pv:Value} {ob:Obj} (h:KeyRep w g (.slice (some ⟨gb,go,none⟩) Z.length cap) Z last) (hx:Z[Z.length-1]?=some (x,pv))
 (hs1:SlF w1 3 1 int1 (.slice (some ⟨pb,po,none⟩) (x.puts.length+1) pc) (x.puts++[rev])) (hg1:(w.alloc ob).grownBy w1 pv.ownBlock) (hb1:pv.ownBlock=some pb\/pb=w.heap.size+1) :
 KeyRep (w1.setCell ⟨gb,go+(Z.length-1) * 4+2,none⟩ (.slice (some ⟨pb,po,none⟩) (x.puts.length+1) pc)) g (.slice (some ⟨gb,go,none⟩) Z.length cap)
  (Z.set (Z.length-1) ({ x with puts:=x.puts++[rev] },.slice (some ⟨pb,po,none⟩) (x.puts.length+1) pc)) last ∧
 Fr (keyF g (.slice (some ⟨gb,go,none⟩) Z.length cap) Z) w (w1.setCell ⟨gb,go+(Z.length-1) * 4+2,none⟩ (.slice (some ⟨pb,po,none⟩) (x.puts.length+1) pc)) ∧
 (∀ b,(Value.slice (some ⟨pb,po,none⟩) (x.puts.length+1) pc).ownBlock=some b->pv.ownBlock=some b\/w.heap.size<=b):=by
 have B:Z.length-1<Z.length:=(List.getElem?_eq_some_iff.1 hx).1;have o:=h.apart _ _ hx;have A:gb<w.heap.size:=h.gens.lt gb rfl;have l:Fr (fun k=>pv.ownBlock=some k) w w1:=(((Fr.refl _ w).alloc _).grown hg1 fun k u=>.inl u);have t:¬ pv.ownBlock=some gb:=fun e=>(o gb e).2 rfl;have m:SlF w1 187 4 genC (.slice (some ⟨gb,go,none⟩) Z.length cap) Z:=h.gens.fr l fun k u hs=>by cases u;exact t hs
 have v:gb≠pb:=by
  rintro rfl;rcases hb1 with e | e
  · exact t e
  omega
 have c:∀ b,(Value.slice (some ⟨pb,po,none⟩) (x.puts.length+1) pc).ownBlock=some b->pv.ownBlock=some b\/w.heap.size<=b:=by
  intro b f;obtain rfl:pb=b:=by simpa [Value.ownBlock] using f
  rcases hb1 with e | e
  · exact .inl e
  right;omega
 have hF:Fr (keyF g (.slice (some ⟨gb,go,none⟩) Z.length cap) Z) w (w1.setCell ⟨gb,go+(Z.length-1) * 4+2,none⟩ (.slice (some ⟨pb,po,none⟩) (x.puts.length+1) pc)):=by
  refine (l.mono ?_).setCell (.inl (.inr (.inl rfl))) _;intro k _ u;exact .inr (.inr ⟨_,_,hx,u⟩)
 have n:∀ (i:Nat) q,Z[i]?=some q->∀ b,q.2.ownBlock=some b->b<w.heap.size:=fun i q a=>(h.puts i q a).lt;refine ⟨?_,hF,c⟩
 constructor
 · have:=h.obj.fr l fun e=>(o g e).1 rfl
   exact this.other _ _ (fun e=>h.own (by rw [e];rfl))
 · simpa using m.set zaj _ 2 (by omega) (x,pv) ({ x with puts:=x.puts++[rev] },.slice (some ⟨pb,po,none⟩) (x.puts.length+1) pc) _ hx rfl
 · intro i q a
   rw [List.getElem?_set] at a
   split at a
   · simp at a
     subst a;have:=hs1.other ⟨gb,go+(Z.length-1) * 4+2,none⟩ (.slice (some ⟨pb,po,none⟩) (x.puts.length+1) pc) (by simpa [Value.ownBlock] using Ne.symm v);simpa [SlF] using this
   rename_i hne2
   have z:=h.puts i q a;have y:∀ b,q.2.ownBlock=some b->¬ pv.ownBlock=some b:=fun b f d=>hne2 (h.apart2 _ _ _ _ hx a b d f);refine (z.fr l y).other _ _ ?_;intro e;exact (h.apart i q a gb e).2 rfl
 · intro i q a b f
   rw [List.getElem?_set] at a
   split at a
   · simp at a
     subst a;rcases c b f with e | e
     · exact o b e
     have:=h.obj.lt
     refine ⟨by omega,?_⟩;simp [Value.ownBlock];omega
   exact h.apart i q a b f
 · intro i j q r a s b f d
   rw [List.getElem?_set] at a s
   split at a <;> split at s
   · omega
   · rename_i e1 e2
     simp at a;subst a;rcases c b f with e | e
     · exact e1▸h.apart2 _ _ _ _ hx s b e d
     have:=n _ _ s b d;omega
   · rename_i e1 e2
     simp at s;subst s;rcases c b d with e | e
     · exact e2▸h.apart2 _ _ _ _ a hx b f e
     have:=n _ _ a b f;omega
   exact h.apart2 i j q r a s b f d
 exact h.own
theorem zuj (n:Nat) {w w1:World} {g gb go cap pb po pc:Nat} {Z:List (Gen×Value)} {last rev:Int} {x:Gen} {pv:Value} {ob:Obj} (h:KeyRep w g (.slice (some ⟨gb,go,none⟩) n cap) Z last) (hn:Z.length=n) (hx:Z[n-1]?=some (x,pv))
 (hs1:SlF w1 3 1 int1 (.slice (some ⟨pb,po,none⟩) (x.puts.length+1) pc) (x.puts++[rev])) (hg1:(w.alloc ob).grownBy w1 pv.ownBlock) (hb1:pv.ownBlock=some pb\/pb=w.heap.size+1) :
 KeyRep (w1.setCell ⟨gb,go+(n-1) * 4+2,none⟩ (.slice (some ⟨pb,po,none⟩) (x.puts.length+1) pc)) g (.slice (some ⟨gb,go,none⟩) n cap)
  (Z.set (n-1) ({ x with puts:=x.puts++[rev] },.slice (some ⟨pb,po,none⟩) (x.puts.length+1) pc)) last ∧
 Fr (keyF g (.slice (some ⟨gb,go,none⟩) n cap) Z) w (w1.setCell ⟨gb,go+(n-1) * 4+2,none⟩ (.slice (some ⟨pb,po,none⟩) (x.puts.length+1) pc)) ∧
 (∀ b,(Value.slice (some ⟨pb,po,none⟩) (x.puts.length+1) pc).ownBlock=some b->pv.ownBlock=some b\/w.heap.size<=b):=by
 subst hn;exact zsg h hx hs1 hg1 hb1
theorem zui (w:World) (g:Nat) (gv:Value) (Z:List (Gen×Value)) (last rev:Int) (x:Gen) (pv:Value) (h:KeyRep w g gv Z last) (hx:Z[Z.length-1]?=some (x,pv))
 (ho:isOpen (Z.map (·.1))=true) (hl:Z.length<=1099511627776) (hp:x.puts.length<=1099511627776) :
 Calls Tryz.prog 159 #[.pointer (some ⟨g,0,none⟩),.int .i64 rev] w fun e w'=>e=.returned (.int .i64 0) ∧
  ∃ v',KeyRep w' g gv (Z.set (Z.length-1) ({ x with puts:=x.puts++[rev] },v')) last/\Fr (keyF g gv Z) w w'/\(∀ b,v'.ownBlock=some b->pv.ownBlock=some b\/w.heap.size<=b):=by
 obtain ⟨a,cap,rfl,G,I,F⟩:=h.gens.shape;have K:Z.length-1<Z.length:=(List.getElem?_eq_some_iff.1 hx).1;obtain ⟨n,go,rfl⟩:=F (by omega);have r:=h.obj.cell 0 rfl;have q:=h.gens.cell zaj (Z.length-1) 2 hx rfl;have s:=h.puts _ _ hx;have o:=h.apart _ _ hx;have d:=zib w g n go cap Z last h ho hl;obtain ⟨L,J,t,v,y⟩:=info_parts info3;have f:=zav w [Value.int .i64 rev] 3 (0,0);have H:=H_ h;clear h;have z:=H_ hx;clear hx;go_enter Tryz.func159,Tryz.ntmps159
 go_wp2_with (first
  | (go_at_call 160;refine d.mono ?_;clear d;rintro e w' ⟨rfl,rfl⟩)
  | (at_builtin;refine zao rfl _ _ 48 rfl 3 L (.int .i64 0) 1 8 Tryz.underlying48 J t v y rfl (by decide) pv x.puts rfl (s.alloc _) w.heap.size 1 rev rfl f rfl ?c1 ?c2 ?c3 ?_))
 case c1=>intro u D;simp [int1] at D;subst D;rfl
 case c2=>unfold maxLen;omega
 case c3=>omega
 intro M O N w1 m i l C;have j:Fr (fun k=>pv.ownBlock=some k) w w1:=(((Fr.refl _ w).alloc _).grown i fun k hk=>.inl hk);have c:SlF w1 187 4 genC (.slice (some ⟨n,go,none⟩) Z.length cap) Z:=H.out.gens.fr j fun k hk hs=>by cases hk;exact (o n hs).2 rfl
 have A:=c.cell zaj (Z.length-1) 2 z.out rfl;have B:=c.free (go+(Z.length-1) * 4+2);have E:=H_ (zsg H.out z.out m i (by simpa using l));clear m c r q f i l j;go_wp2;go_ret;exact ⟨rfl,_,E.out⟩
theorem zpz (n:Nat) (w:World) (g gb go cap:Nat) (Z:List (Gen×Value)) (last:Int) (h:KeyRep w g (.slice (some ⟨gb,go,none⟩) n cap) Z last) (hn:Z.length=n) (ho:isOpen (Z.map (·.1))=true) (hl:n<=1099511627776) :
 Calls Tryz.prog 160 #[.pointer (some ⟨g,0,none⟩)] w fun e w'=>e=.returned (.pointer (some ⟨gb,go+(n-1) * 4,none⟩))/\w=w':=by
 subst hn;exact zib w g gb go cap Z last h ho hl
def zbw (rev:Int):Gen:={ create:=rev,cut:=0,puts:=[],end_:=0 }
theorem zvb {w w1:World} {g gb go cap:Nat} {gv:Value} {Z:List (Gen×Value)} {last rev:Int} {ob:Obj} (h:KeyRep w g gv Z last)
 (hs1:SlF w1 187 4 genC (.slice (some ⟨gb,go,none⟩) (Z.length+1) cap) (Z++[(zbw rev,.slice none 0 0)])) (hg1:(w.alloc ob).grownBy w1 gv.ownBlock) (hb1:gv.ownBlock=some gb\/gb=w.heap.size+1) :
 KeyRep (w1.setCell ⟨g,0,none⟩ (.slice (some ⟨gb,go,none⟩) (Z.length+1) cap)) g (.slice (some ⟨gb,go,none⟩) (Z.length+1) cap) (Z++[(zbw rev,.slice none 0 0)]) last ∧
 Fr (keyF g gv Z) w (w1.setCell ⟨g,0,none⟩ (.slice (some ⟨gb,go,none⟩) (Z.length+1) cap)):=by
 have m:Fr (fun k=>gv.ownBlock=some k) w w1:=(((Fr.refl _ w).alloc _).grown hg1 fun k hk=>.inl hk)
 have n:gb≠g:=by
  rintro rfl;rcases hb1 with e | e
  · exact h.own e
  have:=h.obj.lt;omega
 have a:∀ (i:Nat) q,(Z++[(zbw rev,Value.slice none 0 0)])[i]?=some q->Z[i]?=some q\/q=(zbw rev,.slice none 0 0):=by
  intro i q c;rw [List.getElem?_append] at c
  split at c
  · exact .inl c
  right
  rw [List.getElem?_singleton] at c
  split at c
  · simpa using c.symm
  cases c
 refine ⟨?_,?_⟩
 · constructor
   · have:=(h.obj.fr m h.own).set 0 (.slice (some ⟨gb,go,none⟩) (Z.length+1) cap)
     exact this
   · exact hs1.other _ _ (by simpa [Value.ownBlock] using n)
   · intro i q c
     rcases a i q c with d | rfl
     · exact ((h.puts i q d).fr m fun b f l=>(h.apart i q d b f).2 l).other _ _ fun e=>(h.apart i q d g e).1 rfl
     exact SlF.nil _ _ _ _
   · intro i q c b f
     rcases a i q c with d | rfl
     · refine ⟨(h.apart i q d b f).1,?_⟩
       have t:=(h.puts i q d).lt b f;have o:=(h.apart i q d b f).2;simp only [Value.ownBlock,ne_eq,Option.some.injEq];rintro rfl;rcases hb1 with e | e
       · exact o e
       omega
     simp [Value.ownBlock] at f
   · intro i j q r c u b f l
     rcases a i q c with d | rfl
     · rcases a j r u with s | rfl
       · exact h.apart2 i j q r d s b f l
       simp [Value.ownBlock] at l
     simp [Value.ownBlock] at f
   simpa [Value.ownBlock] using n
 exact (m.mono fun k _ hk=>.inr (.inl hk)).setCell (.inl (.inl rfl)) _
theorem znm (K:List Gen) (rev:Int):isOpen (K++[zbw rev])=true:=by simp [isOpen,zbw]
theorem zwb (w:World) (g:Nat) (gv:Value) (Z:List (Gen×Value)) (last rev:Int) (h:KeyRep w g gv Z last)
 (ho:isOpen (Z.map (·.1))=false) (hl:Z.length<=1099511627) :
 Calls Tryz.prog 159 #[.pointer (some ⟨g,0,none⟩),.int .i64 rev] w fun e w'=>e=.returned (.int .i64 0) ∧
  ∃ gv' v',KeyRep w' g gv' (Z++[({ zbw rev with puts:=[rev] },v')]) last/\Fr (keyF g gv Z) w w'/\(∀ b,v'.ownBlock=some b->w.heap.size<=b)/\(∀ b,gv'.ownBlock=some b->gv.ownBlock=some b\/w.heap.size<=b):=by
 have a0:=h.obj.cell 0 rfl;have a1:=h.obj.free 0;have a2:=h.obj.lt;have y:=zsl w g gv Z last h ho (by omega);have M:=h.gens;obtain ⟨i0,hi,a4,a5,a6⟩:=info_parts info3;obtain ⟨j0,hj,T,U,V⟩:=info_parts info190;have c:=zav w (genC (zbw rev,.slice none 0 0)) 187 (0,0);have H:=H_ h;clear h;go_enter Tryz.func159,Tryz.ntmps159
 go_wp2_with (first
  | (go_at_call 160;refine y.mono ?_;clear y;rintro e w' ⟨rfl,rfl⟩)
  | (at_builtin;refine zao rfl _ _ 184 rfl 187 j0 _ 4 48 Tryz.underlying184 hj T U V rfl (by decide) gv Z rfl (M.alloc _) w.heap.size 1 (zbw rev,.slice none 0 0) rfl c rfl ?c1 ?c2 ?c3 ?_))
 case c1=>intro u R;simp [genC] at R;rcases R with rfl | rfl | rfl | rfl <;> rfl
 case c2=>unfold maxLen;omega
 case c3=>omega
 intro m go cap w1 O j D aa;have F:Fr (fun k=>gv.ownBlock=some k) w w1:=(((Fr.refl _ w).alloc _).grown j fun k W=>.inl W);have d:=H.out.obj.fr F H.out.own;have J:=d.cell 0 rfl;have I:=d.free 0;have K1:=zvb H.out O j (by simpa using D);have r:(Z++[(zbw rev,Value.slice none 0 0)]).length=Z.length+1:=by simp
 have ah:w.heap.size+1<=w1.heap.size:=by have:=j.size;simpa using this
 have a:=zpz (Z.length+1) _ g m go cap _ last K1.1 r (by rw [List.map_append];exact znm _ rev) (by omega);have S:(Z++[(zbw rev,Value.slice none 0 0)])[Z.length]?=some (zbw rev,.slice none 0 0):=by simp
 have t:=SlF.cell (L:=Z++[(zbw rev,Value.slice none 0 0)]) (g:=m) (o:=go) (cap:=cap) zaj (by rw [r];exact K1.1.gens) Z.length 2 S rfl;have v:=SlF.free (L:=Z++[(zbw rev,Value.slice none 0 0)]) (g:=m) (o:=go) (cap:=cap) (by rw [r];exact K1.1.gens) (go+Z.length * 4+2);rw [World.frozen?_setCell] at v;have N:Z.length+1-1=Z.length:=by omega
 rw [N] at a;obtain ⟨z,l⟩:∃ z,z=w1.setCell ⟨g,0,none⟩ (.slice (some ⟨m,go,none⟩) (Z.length+1) cap):=⟨_,rfl⟩;rw [<-l] at a t K1;have C:=H_ K1;have HZ:=H_ r;clear O j a0 a1 c M hj d a2 S K1 r N F T U V;go_wp2_with fail;rw [<-l];refine a.mono ?_;clear a;rintro e w' ⟨rfl,rfl⟩;have X:Hid (z.heap.size=w1.heap.size):=H_ (by rw [l];simp);have A:z.frozen? ⟨m,go+Z.length * 4+2,none⟩=false:=by rw [l];simpa using v
 have c:=zav z [Value.int .i64 rev] 3 (0,0);have HW:=H_ l;clear l v;clear J I;go_wp2_with (at_builtin;refine zao (f:=int1) rfl _ _ 48 rfl 3 i0 (.int .i64 0) 1 8 Tryz.underlying48 hi a4 a5 a6 rfl (by decide) (.slice none 0 0) ([]:List Int) rfl (SlF.nil _ _ _ _) z.heap.size 1 rev rfl c rfl ?c1 ?c2 ?c3 ?_)
 case c1=>intro u R;simp [int1] at R;subst R;rfl
 case c2=>decide
 case c3=>decide
 intro pb po pc w3 Q E G ab;have n:Fr No z w3:=(((Fr.refl _ z).alloc _).grown E fun k W=>by simp [Value.ownBlock] at W);have a7:=n.cell0 t;have K:m<z.heap.size:=C.out.1.gens.lt m rfl
 have a8:w3.frozen? ⟨m,go+Z.length * 4+2,none⟩=false:=by
  rw [World.frozen?_of_block (n.block m K fun s=>s)];exact A
 have P3:=H_ (zuj (x:=zbw rev) (pv:=.slice none 0 0) (Z.length+1) C.out.1 HZ.out (by simp) Q E (by simpa [Value.ownBlock] using G));clear Q E G n t A c;go_wp2;go_ret;have P:=P3.out;simp only [Nat.add_sub_cancel] at P;refine ⟨rfl,.slice (some ⟨m,go,none⟩) (Z.length+1) cap,.slice (some ⟨pb,po,none⟩) 1 pc,?_,C.out.2.trans P.2.1 ?_,?_,?_⟩
 · have:=P.1
   rw [List.set_append_right _ _ (by omega)] at this;simp only [Nat.sub_self,List.set_cons_zero] at this;exact this
 · intro k W a3
   rcases a3 with rfl | e | ⟨i,q,B,e⟩
   · exact .inl rfl
   · obtain rfl:m=k:=by simpa [Value.ownBlock] using e
     rcases D with e | e
     · exact .inr (.inl e)
     omega
   rw [List.getElem?_append] at B
   split at B
   · exact .inr (.inr ⟨i,q,B,e⟩)
   rw [List.getElem?_singleton] at B
   split at B
   · simp at B;subst B;simp [Value.ownBlock] at e
   cases B
 · intro b Y
   rcases P.2.2 b Y with e | e
   · simp [Value.ownBlock] at e
   rw [X.out] at e;omega
 intro b Y
 obtain rfl:m=b:=by simpa [Value.ownBlock] using Y
 rcases D with e | e
 · exact .inl e
 right;omega
theorem Sl.inner {w:World} {e:TypeId} {sz:Nat} {g o n cap:Nat} {xs:List Value} (h:Sl w e sz (.slice (some ⟨g,o,none⟩) n cap) n xs):∃ cur,w.heap[g]?=some (.cells cur e (0,0))/\n<=cap/\cap<=maxLen/\o+cap * sz<=cur.size/\(cur.toList.drop o).take (n * sz)=xs:=by
 rcases h.2 with ⟨b,_⟩ | ⟨l,m,a,cur,k,j,c,d,f,i⟩
 · cases b
 cases k
 exact ⟨cur,j,c,d,f,i⟩
theorem SlF.inner {α:Type} {f:α->List Value} {w:World} {e sz g o cap:Nat} {L:List α} (h:SlF w e sz f (.slice (some ⟨g,o,none⟩) L.length cap) L):∃ cur,w.heap[g]?=some (.cells cur e (0,0))/\L.length<=cap/\cap<=maxLen/\o+cap * sz<=cur.size/\(cur.toList.drop o).take (L.length * sz)=L.flatMap f:=Sl.inner h
theorem SlF.cells {α:Type} {f:α->List Value} {w:World} {e sz g o cap:Nat} {L:List α} (_hf:∀ x,(f x).length=sz) (h:SlF w e sz f (.slice (some ⟨g,o,none⟩) L.length cap) L) (j:Nat) (u:Value) (hu:(L.flatMap f)[j]?=some u):w.cell? ((⟨g,o,none⟩:Addr).add j)=some u:=by
 have a:(⟨g,o,none⟩:Addr).add j=⟨g,o+j,none⟩:=by unfold Addr.add;split <;> simp_all
 rw [a];exact Sl.cell h j hu
theorem SlF.drop {α:Type} {f:α->List Value} {w:World} {e sz g o cap:Nat} {L:List α} (hf:∀ x,(f x).length=sz) (h:SlF w e sz f (.slice (some ⟨g,o,none⟩) L.length cap) L) (k:Nat) (hk:k<=L.length) :
 SlF w e sz f (.slice (some ⟨g,o+k * sz,none⟩) (L.length-k) (cap-k)) (L.drop k):=by
 obtain ⟨a,j,m,n,q,c⟩:=h.inner;have r:k * sz+(cap-k) * sz=cap * sz:=by rw [<-Nat.add_mul];congr 1;omega
 refine ⟨zak hf _,.inr ⟨g,o+k * sz,cap-k,a,by rw [List.length_drop],j,by rw [List.length_drop];omega,by omega,by omega,?_⟩⟩
 have d:(L.drop k).flatMap f=(L.flatMap f).drop (k * sz):=by
  have b:=congrArg (fun l=>List.flatMap f l) (List.take_append_drop k L);simp only [List.flatMap_append] at b;have i:((L.take k).flatMap f).length=k * sz:=(by rw [zak hf];congr 1;simp;omega)
  conv=>rhs;rw [<-b]
  rw [<-i,List.drop_left]
 rw [d,<-c,List.drop_take,List.drop_drop,List.length_drop,Nat.sub_mul]
theorem zlr:∀ (L:List (ByteArray×Int)),∀ u∈L.flatMap pairC,u.oneCell'=true:=by
 intro L u b;obtain ⟨y,_,a⟩:=List.mem_flatMap.1 b;simp [pairC] at a;rcases a with rfl | rfl <;> rfl
theorem zkd:∀ (L:List Nat),∀ u∈L.flatMap nat1,u.oneCell'=true:=by
 intro L u b;obtain ⟨y,_,a⟩:=List.mem_flatMap.1 b;simp [nat1] at a;subst a;rfl
def zfq (L:List (ByteArray×Int)):Prop:=(L.flatMap pairC).length=L.length * 2
def zgv (L:List Nat):Prop:=(L.flatMap nat1).length=L.length * 1
set_option maxHeartbeats 1000000 in
theorem zkc (w:World) (v:Value) (L:List (ByteArray×Int)) (hv:SlF w 125 2 pairC v L) (hl:L.length<=1000) :
 Calls Tryz.prog 163 #[v] w fun e w'=>∃ g,e=.returned (.slice (some ⟨g,0,none⟩) L.length L.length)/\SlF w' 125 2 pairC (.slice (some ⟨g,0,none⟩) L.length L.length) L/\Fr No w w'/\w.heap.size<=g:=by
 obtain ⟨s,i,q,m,r⟩:=info_parts info127;have l:zfq L:=zak zad L;obtain ⟨a,cap,rfl,E,F,x⟩:=hv.shape
 have G:∀ W,(Instr.makeSlice 122 (.int .i64 (L.length:Int)) (.int .i64 (L.length:Int))).run Tryz.prog W=.ok (.slice (some ⟨W.heap.size,0,none⟩) L.length L.length) (W.alloc (.cells (madeCells (Value.cells (.agg #[.string ByteArray.empty,.int .i64 0])) (L.length * 2)) 125)):=by
  intro W;have:=run_make (P:=Tryz.prog) W 122 125 s _ Tryz.underlying122 i q .i64 .i64 L.length L.length (by omega) (by omega) (by rw [r];omega) (by omega);rw [m] at this;simpa using this
 have D:=H_ hv;have A:=H_ x;have t:=H_ l;clear hv x l;have z:(L.flatMap pairC).length=Nat.min L.length L.length * s.size:=by rw [m,zak zad,show Nat.min L.length L.length=L.length from Nat.min_self _]
 have d:0<(L.flatMap pairC).length->(some (⟨w.heap.size,0,none⟩:Addr)=some ⟨w.heap.size,0,none⟩/\∃ ad,a=some ad/\∀ j u,(L.flatMap pairC)[j]?=some u->(w.alloc (.cells (madeCells (Value.cells (.agg #[.string ByteArray.empty,.int .i64 0])) (L.length * 2)) 125)).cell? (ad.add j)=some u):=by
  intro H;rw [zak zad] at H;obtain ⟨I,K,rfl⟩:=A.out (by omega);exact ⟨rfl,_,rfl,fun j u hu=>SlF.cells zad (D.out.alloc _) j u hu⟩
 have c:0+(L.flatMap pairC).length<=(madeCells (Value.cells (.agg #[.string ByteArray.empty,.int .i64 0])) (L.length * 2)).size:=by rw [zak zad,size_madeCells];omega
 have B:=H_ z;have C:=H_ d;have n:=H_ c;clear z d c;go_enter Tryz.func163,Tryz.ntmps163;go_wp2_with (refine zbn rfl _ _ 122 122 125 s rfl Tryz.underlying122 i _ _ L.length L.length L.length cap w.heap.size 0 (madeCells (Value.cells (.agg #[.string ByteArray.empty,.int .i64 0])) (L.length * 2)) 125 (L.flatMap pairC) rfl rfl (zae _ _ _ rfl) B.out C.out n.out (zlr L) ?_);intro M o b;have f:Fr No w (w.alloc (Obj.cells (madeCells (Value.cells (.agg #[.string ByteArray.empty,.int .i64 0])) (L.length * 2)) 125)):=(Fr.refl No w).alloc _;have y:Nat.min L.length L.length=L.length:=Nat.min_self _;go_wp2;go_ret;refine ⟨w.heap.size,rfl,⟨zak zad L,.inr ⟨w.heap.size,0,L.length,_,rfl,o,Nat.le_refl _,by unfold maxLen;omega,?_,?_⟩⟩,?_,Nat.le_refl _⟩
 · have:=t.out;unfold zfq at this
   simp [this]
 · have:=t.out;unfold zfq at this
   have J:(madeCells (Value.cells (.agg #[.string ByteArray.empty,.int .i64 0])) (L.length * 2)).toList.length=L.length * 2:=(by rw [Array.length_toList,size_madeCells] <;> omega);simp only [List.drop_zero];rw [List.take_left' this]
 refine ⟨b.os.trans f.os,b.tape.trans f.tape,b.output.trans f.output,Nat.le_trans f.size b.size,fun k hk _=>(b.block k (Nat.lt_of_lt_of_le hk f.size) fun e=>?_).trans (f.block k hk id)⟩
 cases e
 omega
set_option maxHeartbeats 1000000 in
theorem zlo (w:World) (v:Value) (L:List (Nat)) (hv:SlF w 3 1 nat1 v L) (hl:L.length<=1000) :
 Calls Tryz.prog 164 #[v] w fun e w'=>∃ g,e=.returned (.slice (some ⟨g,0,none⟩) L.length L.length)/\SlF w' 3 1 nat1 (.slice (some ⟨g,0,none⟩) L.length L.length) L/\Fr No w w'/\w.heap.size<=g:=by
 obtain ⟨s,i,q,m,r⟩:=info_parts info3;have l:zgv L:=zak zag L;obtain ⟨a,cap,rfl,E,F,x⟩:=hv.shape
 have G:∀ W,(Instr.makeSlice 48 (.int .i64 (L.length:Int)) (.int .i64 (L.length:Int))).run Tryz.prog W=.ok (.slice (some ⟨W.heap.size,0,none⟩) L.length L.length) (W.alloc (.cells (madeCells (Value.cells (.int .i64 0)) (L.length)) 3)):=by
  intro W;have:=run_make (P:=Tryz.prog) W 48 3 s _ Tryz.underlying48 i q .i64 .i64 L.length L.length (by omega) (by omega) (by rw [r];omega) (by omega);rw [m] at this;simpa using this
 have D:=H_ hv;have A:=H_ x;have t:=H_ l;clear hv x l;have z:(L.flatMap nat1).length=Nat.min L.length L.length * s.size:=by rw [m,zak zag,show Nat.min L.length L.length=L.length from Nat.min_self _]
 have d:0<(L.flatMap nat1).length->(some (⟨w.heap.size,0,none⟩:Addr)=some ⟨w.heap.size,0,none⟩/\∃ ad,a=some ad/\∀ j u,(L.flatMap nat1)[j]?=some u->(w.alloc (.cells (madeCells (Value.cells (.int .i64 0)) (L.length)) 3)).cell? (ad.add j)=some u):=by
  intro H;rw [zak zag] at H;obtain ⟨I,K,rfl⟩:=A.out (by omega);exact ⟨rfl,_,rfl,fun j u hu=>SlF.cells zag (D.out.alloc _) j u hu⟩
 have c:0+(L.flatMap nat1).length<=(madeCells (Value.cells (.int .i64 0)) (L.length)).size:=by rw [zak zag,size_madeCells];omega
 have B:=H_ z;have C:=H_ d;have n:=H_ c;clear z d c;go_enter Tryz.func164,Tryz.ntmps164;go_wp2_with (refine zbn rfl _ _ 48 48 3 s rfl Tryz.underlying48 i _ _ L.length L.length L.length cap w.heap.size 0 (madeCells (Value.cells (.int .i64 0)) (L.length)) 3 (L.flatMap nat1) rfl rfl (zae _ _ _ rfl) B.out C.out n.out (zkd L) ?_);intro M o b;have f:Fr No w (w.alloc (Obj.cells (madeCells (Value.cells (.int .i64 0)) (L.length)) 3)):=(Fr.refl No w).alloc _;have y:Nat.min L.length L.length=L.length:=Nat.min_self _;go_wp2;go_ret;refine ⟨w.heap.size,rfl,⟨zak zag L,.inr ⟨w.heap.size,0,L.length,_,rfl,o,Nat.le_refl _,by unfold maxLen;omega,?_,?_⟩⟩,?_,Nat.le_refl _⟩
 · have:=t.out;unfold zgv at this
   simp [this]
 · have:=t.out;unfold zgv at this
   have J:(madeCells (Value.cells (.int .i64 0)) (L.length)).toList.length=L.length * 1:=(by rw [Array.length_toList,size_madeCells] <;> omega);simp only [List.drop_zero];rw [List.take_left' this]
 refine ⟨b.os.trans f.os,b.tape.trans f.tape,b.output.trans f.output,Nat.le_trans f.size b.size,fun k hk _=>(b.block k (Nat.lt_of_lt_of_le hk f.size) fun e=>?_).trans (f.block k hk id)⟩
 cases e
 omega
theorem cut_eq {α:Type} (L:List α) (i:Nat) (hi:i<L.length):(L.take i++(L.drop (i+1)).take (L.length-(i+1))++L.drop (i+(L.length-(i+1)))).take (L.length-1)=L.take i++L.drop (i+1):=by
 rw [List.take_of_length_le (l:=L.drop (i+1)) (by simp),List.take_append_of_le_length (by simp;omega),List.take_of_length_le (by simp;omega)]
set_option maxHeartbeats 1000000 in
theorem zeh (w:World) (v:Value) (L:List (ByteArray×Int)) (i:Nat) (hv:SlF w 125 2 pairC v L) (hi:i<L.length) (hl:L.length<=1000) :
 Calls Tryz.prog 135 #[v,.int .i64 i] w fun e w'=>∃ g o cap,e=.returned (.slice (some ⟨g,o,none⟩) (L.length-1) cap)/\SlF w' 125 2 pairC (.slice (some ⟨g,o,none⟩) (L.length-1) cap) (L.take i++L.drop (i+1)) ∧
  Fr (fun b=>v.ownBlock=some b) w w'/\v.ownBlock=some g:=by
 obtain ⟨P,G,a8,J,a9⟩:=info_parts info127;obtain ⟨a,cap,rfl,F,X,N⟩:=hv.shape;obtain ⟨g,o,rfl⟩:=N (by omega);obtain ⟨d,f,_,_,n,_⟩:=hv.inner
 have c:(((L.drop (i+1)).take (L.length-(i+1))).flatMap pairC).length=(L.length-(i+1)) * 2:=by
  rw [zak zad];congr 1;simp
 have O:(((L.drop (i+1)).take (L.length-(i+1))).flatMap pairC).length=Nat.min (L.length-(i+1)) (L.length-i) * P.size:=by
  rw [c,J,show Nat.min (L.length-(i+1)) (L.length-i)=L.length-(i+1) from Nat.min_eq_left (by omega)]
 have z:(i+1) * 2+(L.length-(i+1)) * 2=L.length * 2:=by rw [<-Nat.add_mul];congr 1;omega
 have q:i * 2+1 * 2=(i+1) * 2:=by rw [<-Nat.add_mul]
 have H:L.length * 2<=cap * 2:=Nat.mul_le_mul_right _ F;have l:o+i * 2+(((L.drop (i+1)).take (L.length-(i+1))).flatMap pairC).length<=d.size:=by rw [c];omega
 have m:0<(((L.drop (i+1)).take (L.length-(i+1))).flatMap pairC).length->((if cap=i then some (⟨g,o,none⟩:Addr) else some ⟨g,o+i * 2,none⟩)=some ⟨g,o+i * 2,none⟩/\∃ ad,(if cap=i+1 then some (⟨g,o,none⟩:Addr) else some ⟨g,o+(i+1) * 2,none⟩)=some ad ∧
  ∀ j u,(((L.drop (i+1)).take (L.length-(i+1))).flatMap pairC)[j]?=some u->w.drew.cell? (ad.add j)=some u):=by
  intro I;rw [c] at I
  have a4:i+1<L.length:=by
   rcases Nat.lt_or_ge (i+1) L.length with h | h
   · exact h
   rw [show L.length-(i+1)=0 by omega] at I;simp at I
  rw [if_neg (by omega),if_neg (by omega)];refine ⟨by simp,_,rfl,fun j u hu=>?_⟩;rw [List.take_of_length_le (by simp)] at hu;have T:=(hv.drop zad (i+1) (by omega)).drew;have U:SlF w.drew 125 2 pairC (.slice (some ⟨g,o+(i+1) * 2,none⟩) (L.drop (i+1)).length (cap-(i+1))) (L.drop (i+1)):=(by rw [List.length_drop];exact T);have V:=SlF.cells zad U j u hu;simpa using V
 have t:w.drew.heap[g]?=some (.cells d 125 (0,0)):=f;have Q:=H_ O;have R:=H_ m;have C:=H_ l;have S:=H_ hv;have B:=H_ c;have s:=H_ t;clear O m l hv c t N z q H f n;have Y:(i:Int)+1<=(L.length:Int):=by omega
 have Z:(i:Int)<=(L.length:Int):=by omega
 have a0:i+1<=L.length:=by omega
 have a1:i<=L.length:=by omega
 have a2:(0:Int)<=(i:Int)+1:=by omega
 have a3:(0:Int)<=(i:Int):=by omega
 go_enter Tryz.func135,Tryz.ntmps135;go_wp2_with fail;refine wp_region_still_tail 7 (by kernel_rfl) (by kernel_rfl) ?_;simp only [List.take_succ_cons,List.take_zero,List.drop_succ_cons,List.drop_zero];change wpStill _ _ w.drew _ _ _
 repeat (refine wpStill_step (fun K hK=>?_);go_simp;(try go_bits);refine hK _ ?_;clear hK K)
 refine wpStill_nil ?_;change wpList _ _ _ _ _ w.drew;refine zbn rfl _ _ 122 122 125 P rfl Tryz.underlying122 G _ _ _ _ _ _ g (o+i * 2) d 125 (((L.drop (i+1)).take (L.length-(i+1))).flatMap pairC) rfl rfl s.out Q.out R.out C.out (zlr _) ?_;intro w2 r x;generalize (if cap=i then some (⟨g,o,none⟩:Addr) else some ⟨g,o+i * 2,none⟩)=A1;generalize (if cap=i+1 then some (⟨g,o,none⟩:Addr) else some ⟨g,o+(i+1) * 2,none⟩)=A2;have A:=SlF.copied (w:=w.drew) (w':=w2) (L:=L) zad S.out.drew (i+1) i (L.length-(i+1)) (by omega) (by omega) d s.out (by rw [B.out] at r;exact r);have E:=H_ A;have D:=H_ x;clear A r x;have a5:(0:Int)<=(L.length:Int)-1:=by omega
 have a6:(L.length:Int)-1<=(cap:Int):=by omega
 have a7:((L.length:Int)-1).toNat=L.length-1:=by omega
 go_wp2;go_ret;refine ⟨g,o,cap,rfl,?_,((Fr.refl _ w).drew).grown D.out fun k hk=>.inl (by cases hk;rfl),rfl⟩;have W:=E.out;have y:(L.take i++(L.drop (i+1)).take (L.length-(i+1))++L.drop (i+(L.length-(i+1)))).length=L.length:=by simp;omega
 have M:=SlF.take zad (by rw [y];exact W) (L.length-1) (by rw [y];omega);rw [cut_eq L i hi] at M;exact M
set_option maxHeartbeats 1000000 in
theorem zhd (w:World) (v:Value) (L:List (Nat)) (i:Nat) (hv:SlF w 3 1 nat1 v L) (hi:i<L.length) (hl:L.length<=1000) :
 Calls Tryz.prog 156 #[v,.int .i64 i] w fun e w'=>∃ g o cap,e=.returned (.slice (some ⟨g,o,none⟩) (L.length-1) cap)/\SlF w' 3 1 nat1 (.slice (some ⟨g,o,none⟩) (L.length-1) cap) (L.take i++L.drop (i+1)) ∧
  Fr (fun b=>v.ownBlock=some b) w w'/\v.ownBlock=some g:=by
 obtain ⟨P,G,a8,J,a9⟩:=info_parts info3;obtain ⟨a,cap,rfl,F,X,N⟩:=hv.shape;obtain ⟨g,o,rfl⟩:=N (by omega);obtain ⟨d,f,_,_,n,_⟩:=hv.inner
 have c:(((L.drop (i+1)).take (L.length-(i+1))).flatMap nat1).length=(L.length-(i+1)) * 1:=by
  rw [zak zag];congr 1;simp
 have O:(((L.drop (i+1)).take (L.length-(i+1))).flatMap nat1).length=Nat.min (L.length-(i+1)) (L.length-i) * P.size:=by
  rw [c,J,show Nat.min (L.length-(i+1)) (L.length-i)=L.length-(i+1) from Nat.min_eq_left (by omega)]
 have z:(i+1) * 1+(L.length-(i+1)) * 1=L.length * 1:=by rw [<-Nat.add_mul];congr 1;omega
 have q:i * 1+1 * 1=(i+1) * 1:=by rw [<-Nat.add_mul]
 have H:L.length * 1<=cap * 1:=Nat.mul_le_mul_right _ F;have l:o+i * 1+(((L.drop (i+1)).take (L.length-(i+1))).flatMap nat1).length<=d.size:=by rw [c];omega
 have m:0<(((L.drop (i+1)).take (L.length-(i+1))).flatMap nat1).length->((if cap=i then some (⟨g,o,none⟩:Addr) else some ⟨g,o+i,none⟩)=some ⟨g,o+i * 1,none⟩/\∃ ad,(if cap=i+1 then some (⟨g,o,none⟩:Addr) else some ⟨g,o+(i+1),none⟩)=some ad ∧
  ∀ j u,(((L.drop (i+1)).take (L.length-(i+1))).flatMap nat1)[j]?=some u->w.drew.cell? (ad.add j)=some u):=by
  intro I;rw [c] at I
  have a4:i+1<L.length:=by
   rcases Nat.lt_or_ge (i+1) L.length with h | h
   · exact h
   rw [show L.length-(i+1)=0 by omega] at I;simp at I
  rw [if_neg (by omega),if_neg (by omega)];refine ⟨by simp,_,rfl,fun j u hu=>?_⟩;rw [List.take_of_length_le (by simp)] at hu;have T:=(hv.drop zag (i+1) (by omega)).drew;have U:SlF w.drew 3 1 nat1 (.slice (some ⟨g,o+(i+1) * 1,none⟩) (L.drop (i+1)).length (cap-(i+1))) (L.drop (i+1)):=(by rw [List.length_drop];exact T);have V:=SlF.cells zag U j u hu;simpa using V
 have t:w.drew.heap[g]?=some (.cells d 3 (0,0)):=f;have Q:=H_ O;have R:=H_ m;have C:=H_ l;have S:=H_ hv;have B:=H_ c;have s:=H_ t;clear O m l hv c t N z q H f n;have Y:(i:Int)+1<=(L.length:Int):=by omega
 have Z:(i:Int)<=(L.length:Int):=by omega
 have a0:i+1<=L.length:=by omega
 have a1:i<=L.length:=by omega
 have a2:(0:Int)<=(i:Int)+1:=by omega
 have a3:(0:Int)<=(i:Int):=by omega
 go_enter Tryz.func156,Tryz.ntmps156;go_wp2_with fail;refine wp_region_still_tail 7 (by kernel_rfl) (by kernel_rfl) ?_;simp only [List.take_succ_cons,List.take_zero,List.drop_succ_cons,List.drop_zero];change wpStill _ _ w.drew _ _ _
 repeat (refine wpStill_step (fun K hK=>?_);go_simp;(try go_bits);refine hK _ ?_;clear hK K)
 refine wpStill_nil ?_;change wpList _ _ _ _ _ w.drew;refine zbn rfl _ _ 48 48 3 P rfl Tryz.underlying48 G _ _ _ _ _ _ g (o+i * 1) d 3 (((L.drop (i+1)).take (L.length-(i+1))).flatMap nat1) rfl rfl s.out Q.out R.out C.out (zkd _) ?_;intro w2 r x;generalize (if cap=i then some (⟨g,o,none⟩:Addr) else some ⟨g,o+i,none⟩)=A1;generalize (if cap=i+1 then some (⟨g,o,none⟩:Addr) else some ⟨g,o+(i+1),none⟩)=A2;have A:=SlF.copied (w:=w.drew) (w':=w2) (L:=L) zag S.out.drew (i+1) i (L.length-(i+1)) (by omega) (by omega) d s.out (by rw [B.out] at r;exact r);have E:=H_ A;have D:=H_ x;clear A r x;have a5:(0:Int)<=(L.length:Int)-1:=by omega
 have a6:(L.length:Int)-1<=(cap:Int):=by omega
 have a7:((L.length:Int)-1).toNat=L.length-1:=by omega
 go_wp2;go_ret;refine ⟨g,o,cap,rfl,?_,((Fr.refl _ w).drew).grown D.out fun k hk=>.inl (by cases hk;rfl),rfl⟩;have W:=E.out;have y:(L.take i++(L.drop (i+1)).take (L.length-(i+1))++L.drop (i+(L.length-(i+1)))).length=L.length:=by simp;omega
 have M:=SlF.take zag (by rw [y];exact W) (L.length-1) (by rw [y];omega);rw [cut_eq L i hi] at M;exact M
set_option maxHeartbeats 1000000 in
theorem zgy (w:World) (v:Value) (L:List Nat) (i:Nat) (x:Nat) (hv:SlF w 3 1 nat1 v L) (hi:i<=L.length) (hl:L.length<=1000) :
 Calls Tryz.prog 155 #[v,.int .i64 i,.int .i64 x] w fun e w'=>∃ g o cap,e=.returned (.slice (some ⟨g,o,none⟩) (L.length+1) cap) ∧
  SlF w' 3 1 nat1 (.slice (some ⟨g,o,none⟩) (L.length+1) cap) (L.take i++x :: L.drop i)/\Fr (fun b=>v.ownBlock=some b) w w'/\(v.ownBlock=some g\/w.heap.size<=g):=by
 obtain ⟨Z,J,X,M,Y⟩:=info_parts info3;have t:=zav w [.int .i64 (x:Int)] 3 (0,0);have HV:=H_ hv;clear hv;have ar:(0:Int)<=(i:Int):=by omega
 go_enter Tryz.func155,Tryz.ntmps155;go_wp2_with (at_builtin;refine zao rfl _ _ 48 rfl 3 Z _ 1 8 Tryz.underlying48 J X M Y rfl (by decide) v L rfl (HV.out.alloc _) w.heap.size 1 x rfl (by simpa [nat1] using t) rfl (by intro u F;simp [nat1] at F;subst F;rfl) (by unfold maxLen;omega) (by omega) ?_);intro g o cap w1 n B U a5;have aj:=HV.out.lt;have S:Fr (fun b=>v.ownBlock=some b) w w1:=(((Fr.refl _ w).alloc _).grown B fun k hk=>.inl hk)
 have a:v.ownBlock=some g\/w.heap.size<=g:=by
  rcases U with e | e
  · exact .inl e
  right;omega
 have d:(L++[x]).length=L.length+1:=by simp
 obtain ⟨m,q,C,_,A,_⟩:=SlF.inner (L:=L++[x]) (by rw [d];exact n);rw [d] at C
 have f:((((L++[x]).drop i).take (L.length-i)).flatMap nat1).length=(L.length-i) * 1:=by
  rw [zak zag];congr 1;simp;omega
 have hn:((((L++[x]).drop i).take (L.length-i)).flatMap nat1).length=Nat.min (L.length+1-i) (L.length-i) * Z.size:=by
  rw [f,M,show Nat.min (L.length+1-i) (L.length-i)=L.length-i from Nat.min_eq_right (by omega)]
 have r:o+(i+1)+((((L++[x]).drop i).take (L.length-i)).flatMap nat1).length<=m.size:=by rw [f];omega
 have z:0<((((L++[x]).drop i).take (L.length-i)).flatMap nat1).length->((if cap=i+1 then some (⟨g,o,none⟩:Addr) else some ⟨g,o+(i+1),none⟩)=some ⟨g,o+(i+1),none⟩/\∃ ad,(if cap=i then some (⟨g,o,none⟩:Addr) else some ⟨g,o+i,none⟩)=some ad ∧
  ∀ j u,((((L++[x]).drop i).take (L.length-i)).flatMap nat1)[j]?=some u->w1.drew.cell? (ad.add j)=some u):=by
  intro hp;rw [f] at hp;rw [if_neg (by omega),if_neg (by omega)];refine ⟨rfl,_,rfl,fun j u F=>?_⟩;have hj:=(List.getElem?_eq_some_iff.1 F).1;rw [f] at hj;have h1:=(SlF.drop (L:=L++[x]) zag (by rw [d];exact n) i (by rw [d];omega)).drew;have h2:SlF w1.drew 3 1 nat1 (.slice (some ⟨g,o+i * 1,none⟩) ((L++[x]).drop i).length (cap-i)) ((L++[x]).drop i):=(by rw [List.length_drop];exact h1)
  have V:(((L++[x]).drop i).flatMap nat1)[j]?=some u:=by
   have h6:=zdl zag ((L++[x]).drop i) (L.length-i);rw [<-h6,List.getElem?_take,if_pos (by omega)] at F;exact F
  have h3:=SlF.cells zag h2 j u V;simpa using h3
 have I:w1.drew.heap[g]?=some (.cells m 3 (0,0)):=q;have H1:=H_ n;have a9:=H_ B;have HL:=H_ d;have HN:=H_ hn;have HP:=H_ z;have P:=H_ r;have O:=H_ f;have G:=H_ I;clear n B d t hn z r f I q A;have ak:(i:Int)+1<=(L.length:Int)+1:=by omega
 have ao:(0:Int)<=(i:Int)+1:=by omega
 have al:(i:Int)<=(L.length:Int)+1:=by omega
 have am:i+1<=L.length+1:=by omega
 have an:i<=L.length+1:=by omega
 go_wp2_with fail;refine wp_region_still_tail 7 (by kernel_rfl) (by kernel_rfl) ?_;simp only [List.take_succ_cons,List.take_zero,List.drop_succ_cons,List.drop_zero];change wpStill _ _ w1.drew _ _ _
 repeat (refine wpStill_step (fun K hK=>?_);go_simp;(try go_bits);refine hK _ ?_;clear hK K)
 refine wpStill_nil ?_;change wpList _ _ _ _ _ w1.drew;refine zbn rfl _ _ 48 48 3 Z rfl Tryz.underlying48 J _ _ _ _ _ _ g (o+(i+1)) m 3 ((((L++[x]).drop i).take (L.length-i)).flatMap nat1) rfl rfl G.out HN.out HP.out P.out (zkd _) ?_;intro w2 E s;generalize (if cap=i+1 then some (⟨g,o,none⟩:Addr) else some ⟨g,o+(i+1),none⟩)=A1;generalize (if cap=i then some (⟨g,o,none⟩:Addr) else some ⟨g,o+i,none⟩)=A2;have D:=SlF.copied (w:=w1.drew) (w':=w2) (L:=L++[x]) zag (by have:=H1.out;rw [HL.out];exact this) i (i+1) (L.length-i) (by simp;omega) (by simp;omega) m G.out (by rw [O.out] at E;simpa using E);have HE:=H_ (zmc L x i hi);generalize H:((L++[x]).take (i+1)++((L++[x]).drop i).take (L.length-i)++(L++[x]).drop (i+1+(L.length-i)))=N at D HE
 have l:N.length=L.length+1:=by rw [<-H];simp;omega
 obtain ⟨y,W⟩:∃ y,N[i]?=some y:=⟨_,List.getElem?_eq_getElem (by omega)⟩;have c:SlF w2 3 1 nat1 (.slice (some ⟨g,o,none⟩) N.length cap) N:=by rw [l];rwa [HL.out] at D
 have d0:=c.cell1 zag i W rfl;have f0:=c.free (o+i);have H2:=H_ c;have HY:=H_ W;have R:=H_ l;have Q:=H_ s;have ap:(i:Int)<(L.length:Int)+1:=by omega
 have aq:i<L.length+1:=by omega
 clear D c W H l s E;go_wp2;go_ret;refine ⟨g,o,cap,rfl,?_,?_,a⟩
 · have e1:=SlF.set zag H2.out i 0 (by omega) y x (.int .i64 x) HY.out rfl
   rw [HE.out,R.out] at e1;simpa using e1
 have T:Fr (fun b=>v.ownBlock=some b) w w2:=S.drew.grown Q.out fun k hk=>by cases hk;exact a
 exact T.setCell (p:=⟨g,o+i,none⟩) a _
end Go.Proofs.YtdgkdfmfoonbpaaGreat