/- The package gens, function by function: what open, put, tombstone, change, Put, Tombstone, New do to a key's generations. No condition but that lists stay short. -/
import Derived.Test.YthljnnjpmdgkoaaN00
import Derived.Test.YthljnnjpmdgkoaaProg
import Derived.Outline
namespace Go.Proofs.Ythljnnjpmdgkoaa
open Go Go.Proofs Go.RowKit
set_option maxRecDepth 100000
structure Gen where
 create:Int
 cut:Int
 puts:List Int
 end_:Int
def genC (p:Gen × Value):List Value:=[.int .i64 p.1.create,.int .i64 p.1.cut,p.2,.int .i64 p.1.end_]
theorem zax (p:Gen × Value):(genC p).length=4:=rfl
structure KeyRep (w:World) (g:Nat) (gv:Value) (Z:List (Gen × Value)) (last:Int):Prop where
 obj:Has w g [gv,.int .i64 last]
 gens:SlF w 190 4 genC gv Z
 puts:∀ (i:Nat) p,Z[i]? = some p->SlF w 3 1 int1 p.2 p.1.puts
 apart:∀ (i:Nat) p,Z[i]? = some p->∀ b,p.2.ownBlock=some b->b≠g/\gv.ownBlock≠some b
 apart2:∀ (i j:Nat) p q,Z[i]? = some p->Z[j]? = some q->∀ b,p.2.ownBlock=some b->q.2.ownBlock=some b->i=j
 own:gv.ownBlock≠some g
def keyF (g:Nat) (gv:Value) (Z:List (Gen × Value)) (b:Nat):Prop:=b=g\/gv.ownBlock=some b\/∃ (i:Nat) (p:Gen × Value),Z[i]? = some p/\p.2.ownBlock=some b
def isOpen (K:List Gen):Bool:=match K.getLast? with
 | some x=>x.end_ == 0
 | none=>false
theorem zql (w:World) (g:Nat) (gv:Value) (Z:List (Gen × Value)) (last:Int) (h:KeyRep w g gv Z last) (ho:isOpen (Z.map (·.1))=false) (hl:Z.length<=1099511627776) :
 Calls Try.prog 148 #[.pointer (some ⟨g,0,none⟩)] w fun e w'=>e = .returned (.pointer none)/\w=w':=by
 obtain ⟨a,cap,rfl,hc1,hc2,ha⟩:=h.gens.shape;have hg0:=h.obj.cell 0 rfl;by_cases hz:Z.length=0
 · obtain rfl:=List.eq_nil_of_length_eq_zero hz
   go_enter Try.func148,Try.ntmps148;go_wp2;go_ret;exact ⟨rfl,rfl⟩
 obtain ⟨gb,go,rfl⟩:=ha (by omega)
 have hx:Z[Z.length - 1]? = some (Z[Z.length - 1]'(by omega)):=List.getElem?_eq_getElem (by omega);have he:=h.gens.cell zax (Z.length - 1) 3 hx rfl;have hz0:(0:Int) < (Z.length:Int):=(by omega)
 have hen:((Z[Z.length - 1]'(by omega)).1.end_ == 0)=false:=by
  unfold isOpen at ho;rw [List.getLast?_map,List.getLast?_eq_getElem?,hx] at ho;exact ho
 generalize (Z[Z.length - 1]'(by omega)).1.end_=en at he hen;clear h hx ha ho;generalize Z.length=n at *;go_enter Try.func148,Try.ntmps148;go_wp2;go_ret;exact ⟨rfl,rfl⟩
theorem zhh (w:World) (g gb go cap:Nat) (Z:List (Gen × Value)) (last:Int) (h:KeyRep w g (.slice (some ⟨gb,go,none⟩) Z.length cap) Z last) (ho:isOpen (Z.map (·.1))=true) (hl:Z.length<=1099511627776) :
 Calls Try.prog 148 #[.pointer (some ⟨g,0,none⟩)] w fun e w'=>e = .returned (.pointer (some ⟨gb,go+(Z.length - 1) * 4,none⟩))/\w=w':=by
 have hg0:=h.obj.cell 0 rfl
 have hz:Z.length≠0:=by
  intro hz;obtain rfl:=List.eq_nil_of_length_eq_zero hz;simp [isOpen] at ho
 have hx:Z[Z.length - 1]? = some (Z[Z.length - 1]'(by omega)):=List.getElem?_eq_getElem (by omega);have he:=h.gens.cell zax (Z.length - 1) 3 hx rfl;have hz0:(0:Int) < (Z.length:Int):=by omega
 have hen:((Z[Z.length - 1]'(by omega)).1.end_ == 0)=true:=by
  unfold isOpen at ho;rw [List.getLast?_map,List.getLast?_eq_getElem?,hx] at ho;exact ho
 obtain ⟨_,_,hv,hc1,hc2,_⟩:=h.gens.shape;cases hv
 generalize (Z[Z.length - 1]'(by omega)).1.end_=en at he hen;clear h hx ho;generalize Z.length=n at *;go_enter Try.func148,Try.ntmps148;go_wp2;go_ret;exact ⟨rfl,rfl⟩
theorem info3:(Try.prog.info? 3).map (fun i=>(i.zero,i.size,i.bytes))=some (some (.int .i64 0),1,8):=by kernel_rfl
theorem info190:(Try.prog.info? 190).map (fun i=>(i.zero,i.size,i.bytes))=some (some (.agg #[.int .i64 0,.int .i64 0,.slice none 0 0,.int .i64 0]),4,48):=by kernel_rfl
theorem zqe {w w1:World} {g gb go cap pb po pc:Nat} {Z:List (Gen × Value)} {last rev:Int} {x:Gen} {pv:Value} {ob:Obj} (h:KeyRep w g (.slice (some ⟨gb,go,none⟩) Z.length cap) Z last) (hx:Z[Z.length - 1]? = some (x,pv))
 (hs1:SlF w1 3 1 int1 (.slice (some ⟨pb,po,none⟩) (x.puts.length+1) pc) (x.puts++[rev])) (hg1:(w.alloc ob).grownBy w1 pv.ownBlock) (hb1:pv.ownBlock=some pb\/pb=w.heap.size+1) :
 KeyRep (w1.setCell ⟨gb,go+(Z.length - 1) * 4+2,none⟩ (.slice (some ⟨pb,po,none⟩) (x.puts.length+1) pc)) g (.slice (some ⟨gb,go,none⟩) Z.length cap)
  (Z.set (Z.length - 1) ({ x with puts:=x.puts++[rev] },.slice (some ⟨pb,po,none⟩) (x.puts.length+1) pc)) last ∧
 Fr (keyF g (.slice (some ⟨gb,go,none⟩) Z.length cap) Z) w (w1.setCell ⟨gb,go+(Z.length - 1) * 4+2,none⟩ (.slice (some ⟨pb,po,none⟩) (x.puts.length+1) pc)) ∧
 (∀ b,(Value.slice (some ⟨pb,po,none⟩) (x.puts.length+1) pc).ownBlock=some b->pv.ownBlock=some b\/w.heap.size<=b):=by
 have hzl:Z.length - 1 < Z.length:=(List.getElem?_eq_some_iff.1 hx).1;have hap:=h.apart _ _ hx;have hgl:gb < w.heap.size:=h.gens.lt gb rfl;have hF0:Fr (fun k=>pv.ownBlock=some k) w w1:=(((Fr.refl _ w).alloc _).grown hg1 fun k hk=>.inl hk);have hgn:¬ pv.ownBlock=some gb:=fun e=>(hap gb e).2 rfl;have hgens1:SlF w1 190 4 genC (.slice (some ⟨gb,go,none⟩) Z.length cap) Z:=h.gens.fr hF0 fun k hk hs=>by cases hk;exact hgn hs
 have hne:gb≠pb:=by
  rintro rfl;rcases hb1 with e | e
  · exact hgn e
  omega
 have hown':∀ b,(Value.slice (some ⟨pb,po,none⟩) (x.puts.length+1) pc).ownBlock=some b->pv.ownBlock=some b\/w.heap.size<=b:=by
  intro b hb;obtain rfl:pb=b:=by simpa [Value.ownBlock] using hb
  rcases hb1 with e | e
  · exact .inl e
  right;omega
 have hF:Fr (keyF g (.slice (some ⟨gb,go,none⟩) Z.length cap) Z) w (w1.setCell ⟨gb,go+(Z.length - 1) * 4+2,none⟩ (.slice (some ⟨pb,po,none⟩) (x.puts.length+1) pc)):=by
  refine (hF0.mono ?_).setCell (.inl (.inr (.inl rfl))) _;intro k _ hk;exact .inr (.inr ⟨_,_,hx,hk⟩)
 have hown:∀ (i:Nat) q,Z[i]? = some q->∀ b,q.2.ownBlock=some b->b < w.heap.size:=fun i q hq=>(h.puts i q hq).lt;refine ⟨?_,hF,hown'⟩
 constructor
 · have:=h.obj.fr hF0 fun e=>(hap g e).1 rfl
   exact this.other _ _ (fun e=>h.own (by rw [e];rfl))
 · simpa using hgens1.set zax _ 2 (by omega) (x,pv) ({ x with puts:=x.puts++[rev] },.slice (some ⟨pb,po,none⟩) (x.puts.length+1) pc) _ hx rfl
 · intro i q hq
   rw [List.getElem?_set] at hq
   split at hq
   · simp at hq
     subst hq;have:=hs1.other ⟨gb,go+(Z.length - 1) * 4+2,none⟩ (.slice (some ⟨pb,po,none⟩) (x.puts.length+1) pc) (by simpa [Value.ownBlock] using Ne.symm hne);simpa [SlF] using this
   rename_i hne2
   have hq':=h.puts i q hq;have hnp:∀ b,q.2.ownBlock=some b->¬ pv.ownBlock=some b:=fun b hb hb'=>hne2 (h.apart2 _ _ _ _ hx hq b hb' hb);refine (hq'.fr hF0 hnp).other _ _ ?_;intro e;exact (h.apart i q hq gb e).2 rfl
 · intro i q hq b hb
   rw [List.getElem?_set] at hq
   split at hq
   · simp at hq
     subst hq;rcases hown' b hb with e | e
     · exact hap b e
     have:=h.obj.lt
     refine ⟨by omega,?_⟩;simp [Value.ownBlock];omega
   exact h.apart i q hq b hb
 · intro i j q r hq hr b hb hb'
   rw [List.getElem?_set] at hq hr
   split at hq <;> split at hr
   · omega
   · rename_i e1 e2
     simp at hq;subst hq;rcases hown' b hb with e | e
     · exact e1 ▸ h.apart2 _ _ _ _ hx hr b e hb'
     have:=hown _ _ hr b hb';omega
   · rename_i e1 e2
     simp at hr;subst hr;rcases hown' b hb' with e | e
     · exact e2 ▸ h.apart2 _ _ _ _ hq hx b hb e
     have:=hown _ _ hq b hb;omega
   exact h.apart2 i j q r hq hr b hb hb'
 exact h.own
theorem zsa (n:Nat) {w w1:World} {g gb go cap pb po pc:Nat} {Z:List (Gen × Value)} {last rev:Int} {x:Gen} {pv:Value} {ob:Obj} (h:KeyRep w g (.slice (some ⟨gb,go,none⟩) n cap) Z last) (hn:Z.length=n) (hx:Z[n - 1]? = some (x,pv))
 (hs1:SlF w1 3 1 int1 (.slice (some ⟨pb,po,none⟩) (x.puts.length+1) pc) (x.puts++[rev])) (hg1:(w.alloc ob).grownBy w1 pv.ownBlock) (hb1:pv.ownBlock=some pb\/pb=w.heap.size+1) :
 KeyRep (w1.setCell ⟨gb,go+(n - 1) * 4+2,none⟩ (.slice (some ⟨pb,po,none⟩) (x.puts.length+1) pc)) g (.slice (some ⟨gb,go,none⟩) n cap)
  (Z.set (n - 1) ({ x with puts:=x.puts++[rev] },.slice (some ⟨pb,po,none⟩) (x.puts.length+1) pc)) last ∧
 Fr (keyF g (.slice (some ⟨gb,go,none⟩) n cap) Z) w (w1.setCell ⟨gb,go+(n - 1) * 4+2,none⟩ (.slice (some ⟨pb,po,none⟩) (x.puts.length+1) pc)) ∧
 (∀ b,(Value.slice (some ⟨pb,po,none⟩) (x.puts.length+1) pc).ownBlock=some b->pv.ownBlock=some b\/w.heap.size<=b):=by
 subst hn;exact zqe h hx hs1 hg1 hb1
theorem zrz (w:World) (g:Nat) (gv:Value) (Z:List (Gen × Value)) (last rev:Int) (x:Gen) (pv:Value) (h:KeyRep w g gv Z last) (hx:Z[Z.length - 1]? = some (x,pv))
 (ho:isOpen (Z.map (·.1))=true) (hl:Z.length<=1099511627776) (hp:x.puts.length<=1099511627776) :
 Calls Try.prog 145 #[.pointer (some ⟨g,0,none⟩),.int .i64 rev] w fun e w'=>e = .returned (.int .i64 0) ∧
  ∃ v',KeyRep w' g gv (Z.set (Z.length - 1) ({ x with puts:=x.puts++[rev] },v')) last/\Fr (keyF g gv Z) w w'/\(∀ b,v'.ownBlock=some b->pv.ownBlock=some b\/w.heap.size<=b):=by
 obtain ⟨a,cap,rfl,hc1,hc2,ha⟩:=h.gens.shape;have hzl:Z.length - 1 < Z.length:=(List.getElem?_eq_some_iff.1 hx).1;obtain ⟨gb,go,rfl⟩:=ha (by omega);have hg0:=h.obj.cell 0 rfl;have hcp:=h.gens.cell zax (Z.length - 1) 2 hx rfl;have hpv:=h.puts _ _ hx;have hap:=h.apart _ _ hx;have hopen:=zhh w g gb go cap Z last h ho hl;obtain ⟨i0,hi,hz0,hz1,hz2⟩:=info_parts info3;have hnew:=zas w [Value.int .i64 rev] 3 (0,0);have H:=H_ h;clear h;have HX:=H_ hx;clear hx;go_enter Try.func145,Try.ntmps145
 go_wp2_with (first
  | (go_at_call 148;refine hopen.mono ?_;clear hopen;rintro e w' ⟨rfl,rfl⟩)
  | (at_builtin;refine zap rfl _ _ 149 rfl 3 i0 (.int .i64 0) 1 8 Try.underlying149 hi hz0 hz1 hz2 rfl (by decide) pv x.puts rfl (hpv.alloc _) w.heap.size 1 rev rfl hnew rfl ?c1 ?c2 ?c3 ?_))
 case c1=>intro u hu;simp [int1] at hu;subst hu;rfl
 case c2=>unfold maxLen;omega
 case c3=>omega
 intro pb po pc w1 hs1 hg1 hb1 hlt1;have hF0:Fr (fun k=>pv.ownBlock=some k) w w1:=(((Fr.refl _ w).alloc _).grown hg1 fun k hk=>.inl hk);have hgens1:SlF w1 190 4 genC (.slice (some ⟨gb,go,none⟩) Z.length cap) Z:=H.out.gens.fr hF0 fun k hk hs=>by cases hk;exact (hap gb hs).2 rfl
 have hcp1:=hgens1.cell zax (Z.length - 1) 2 HX.out rfl;have hfr1:=hgens1.free (go+(Z.length - 1) * 4+2);have H1:=H_ (zqe H.out HX.out hs1 hg1 (by simpa using hb1));clear hs1 hgens1 hg0 hcp hnew hg1 hb1 hF0;go_wp2;go_ret;exact ⟨rfl,_,H1.out⟩
theorem zon (n:Nat) (w:World) (g gb go cap:Nat) (Z:List (Gen × Value)) (last:Int) (h:KeyRep w g (.slice (some ⟨gb,go,none⟩) n cap) Z last) (hn:Z.length=n) (ho:isOpen (Z.map (·.1))=true) (hl:n<=1099511627776) :
 Calls Try.prog 148 #[.pointer (some ⟨g,0,none⟩)] w fun e w'=>e = .returned (.pointer (some ⟨gb,go+(n - 1) * 4,none⟩))/\w=w':=by
 subst hn;exact zhh w g gb go cap Z last h ho hl
def zbl (rev:Int):Gen:={ create:=rev,cut:=0,puts:=[],end_:=0 }
theorem zsi {w w1:World} {g gb go cap:Nat} {gv:Value} {Z:List (Gen × Value)} {last rev:Int} {ob:Obj} (h:KeyRep w g gv Z last)
 (hs1:SlF w1 190 4 genC (.slice (some ⟨gb,go,none⟩) (Z.length+1) cap) (Z++[(zbl rev,.slice none 0 0)])) (hg1:(w.alloc ob).grownBy w1 gv.ownBlock) (hb1:gv.ownBlock=some gb\/gb=w.heap.size+1) :
 KeyRep (w1.setCell ⟨g,0,none⟩ (.slice (some ⟨gb,go,none⟩) (Z.length+1) cap)) g (.slice (some ⟨gb,go,none⟩) (Z.length+1) cap) (Z++[(zbl rev,.slice none 0 0)]) last ∧
 Fr (keyF g gv Z) w (w1.setCell ⟨g,0,none⟩ (.slice (some ⟨gb,go,none⟩) (Z.length+1) cap)):=by
 have hF0:Fr (fun k=>gv.ownBlock=some k) w w1:=(((Fr.refl _ w).alloc _).grown hg1 fun k hk=>.inl hk)
 have hne:gb≠g:=by
  rintro rfl;rcases hb1 with e | e
  · exact h.own e
  have:=h.obj.lt;omega
 have hget:∀ (i:Nat) q,(Z++[(zbl rev,Value.slice none 0 0)])[i]? = some q->Z[i]? = some q\/q=(zbl rev,.slice none 0 0):=by
  intro i q hq;rw [List.getElem?_append] at hq
  split at hq
  · exact .inl hq
  right
  rw [List.getElem?_singleton] at hq
  split at hq
  · simpa using hq.symm
  cases hq
 refine ⟨?_,?_⟩
 · constructor
   · have:=(h.obj.fr hF0 h.own).set 0 (.slice (some ⟨gb,go,none⟩) (Z.length+1) cap)
     exact this
   · exact hs1.other _ _ (by simpa [Value.ownBlock] using hne)
   · intro i q hq
     rcases hget i q hq with h1 | rfl
     · exact ((h.puts i q h1).fr hF0 fun b hb hb'=>(h.apart i q h1 b hb).2 hb').other _ _ fun e=>(h.apart i q h1 g e).1 rfl
     exact SlF.nil _ _ _ _
   · intro i q hq b hb
     rcases hget i q hq with h1 | rfl
     · refine ⟨(h.apart i q h1 b hb).1,?_⟩
       have hbl:=(h.puts i q h1).lt b hb;have hb2:=(h.apart i q h1 b hb).2;simp only [Value.ownBlock,ne_eq,Option.some.injEq];rintro rfl;rcases hb1 with e | e
       · exact hb2 e
       omega
     simp [Value.ownBlock] at hb
   · intro i j q r hq hr b hb hb'
     rcases hget i q hq with h1 | rfl
     · rcases hget j r hr with h2 | rfl
       · exact h.apart2 i j q r h1 h2 b hb hb'
       simp [Value.ownBlock] at hb'
     simp [Value.ownBlock] at hb
   simpa [Value.ownBlock] using hne
 exact (hF0.mono fun k _ hk=>.inr (.inl hk)).setCell (.inl (.inl rfl)) _
theorem zmh (K:List Gen) (rev:Int):isOpen (K++[zbl rev])=true:=by simp [isOpen,zbl]
theorem zte (w:World) (g:Nat) (gv:Value) (Z:List (Gen × Value)) (last rev:Int) (h:KeyRep w g gv Z last)
 (ho:isOpen (Z.map (·.1))=false) (hl:Z.length<=1099511627) :
 Calls Try.prog 145 #[.pointer (some ⟨g,0,none⟩),.int .i64 rev] w fun e w'=>e = .returned (.int .i64 0) ∧
  ∃ gv' v',KeyRep w' g gv' (Z++[({ zbl rev with puts:=[rev] },v')]) last/\Fr (keyF g gv Z) w w'/\(∀ b,v'.ownBlock=some b->w.heap.size<=b)/\(∀ b,gv'.ownBlock=some b->gv.ownBlock=some b\/w.heap.size<=b):=by
 have hg0:=h.obj.cell 0 rfl;have hg1:=h.obj.free 0;have hgl:=h.obj.lt;have hopen:=zql w g gv Z last h ho (by omega);have hgs:=h.gens;obtain ⟨i0,hi,hz0,hz1,hz2⟩:=info_parts info3;obtain ⟨j0,hj,hy0,hy1,hy2⟩:=info_parts info190;have hnew:=zas w (genC (zbl rev,.slice none 0 0)) 190 (0,0);have H:=H_ h;clear h;go_enter Try.func145,Try.ntmps145
 go_wp2_with (first
  | (go_at_call 148;refine hopen.mono ?_;clear hopen;rintro e w' ⟨rfl,rfl⟩)
  | (at_builtin;refine zap rfl _ _ 187 rfl 190 j0 _ 4 48 Try.underlying187 hj hy0 hy1 hy2 rfl (by decide) gv Z rfl (hgs.alloc _) w.heap.size 1 (zbl rev,.slice none 0 0) rfl hnew rfl ?c1 ?c2 ?c3 ?_))
 case c1=>intro u hu;simp [genC] at hu;rcases hu with rfl | rfl | rfl | rfl <;> rfl
 case c2=>unfold maxLen;omega
 case c3=>omega
 intro gb go cap w1 hs1 hgr1 hb1 hlt1;have hF0:Fr (fun k=>gv.ownBlock=some k) w w1:=(((Fr.refl _ w).alloc _).grown hgr1 fun k hk=>.inl hk);have hobj1:=H.out.obj.fr hF0 H.out.own;have hg01:=hobj1.cell 0 rfl;have hf01:=hobj1.free 0;have K1:=zsi H.out hs1 hgr1 (by simpa using hb1);have hZl:(Z++[(zbl rev,Value.slice none 0 0)]).length=Z.length+1:=by simp
 have hl1:w.heap.size+1<=w1.heap.size:=by have:=hgr1.size;simpa using this
 have hopen2:=zon (Z.length+1) _ g gb go cap _ last K1.1 hZl (by rw [List.map_append];exact zmh _ rev) (by omega);have hxl:(Z++[(zbl rev,Value.slice none 0 0)])[Z.length]? = some (zbl rev,.slice none 0 0):=by simp
 have hcp2:=SlF.cell (L:=Z++[(zbl rev,Value.slice none 0 0)]) (g:=gb) (o:=go) (cap:=cap) zax (by rw [hZl];exact K1.1.gens) Z.length 2 hxl rfl;have hfr2:=SlF.free (L:=Z++[(zbl rev,Value.slice none 0 0)]) (g:=gb) (o:=go) (cap:=cap) (by rw [hZl];exact K1.1.gens) (go+Z.length * 4+2);rw [World.frozen?_setCell] at hfr2;have hk1:Z.length+1 - 1=Z.length:=by omega
 rw [hk1] at hopen2;obtain ⟨w2,hw2⟩:∃ w2,w2=w1.setCell ⟨g,0,none⟩ (.slice (some ⟨gb,go,none⟩) (Z.length+1) cap):=⟨_,rfl⟩;rw [<-hw2] at hopen2 hcp2 K1;have HK1:=H_ K1;have HZ:=H_ hZl;clear hs1 hgr1 hg0 hg1 hnew hgs hj hobj1 hgl hxl K1 hZl hk1 hF0 hy0 hy1 hy2;go_wp2_with fail;rw [<-hw2];refine hopen2.mono ?_;clear hopen2;rintro e w' ⟨rfl,rfl⟩;have HS2:Hid (w2.heap.size=w1.heap.size):=H_ (by rw [hw2];simp);have hfr3:w2.frozen? ⟨gb,go+Z.length * 4+2,none⟩=false:=by rw [hw2];simpa using hfr2
 have hnew:=zas w2 [Value.int .i64 rev] 3 (0,0);have HW:=H_ hw2;clear hw2 hfr2;clear hg01 hf01;go_wp2_with (at_builtin;refine zap (f:=int1) rfl _ _ 149 rfl 3 i0 (.int .i64 0) 1 8 Try.underlying149 hi hz0 hz1 hz2 rfl (by decide) (.slice none 0 0) ([]:List Int) rfl (SlF.nil _ _ _ _) w2.heap.size 1 rev rfl hnew rfl ?c1 ?c2 ?c3 ?_)
 case c1=>intro u hu;simp [int1] at hu;subst hu;rfl
 case c2=>decide
 case c3=>decide
 intro pb po pc w3 hs3 hg3 hb3 hlt3;have hFr3:Fr No w2 w3:=(((Fr.refl _ w2).alloc _).grown hg3 fun k hk=>by simp [Value.ownBlock] at hk);have hcp3:=hFr3.cell0 hcp2;have hgb2:gb < w2.heap.size:=HK1.out.1.gens.lt gb rfl
 have hfr4:w3.frozen? ⟨gb,go+Z.length * 4+2,none⟩=false:=by
  rw [World.frozen?_of_block (hFr3.block gb hgb2 fun s=>s)];exact hfr3
 have P3:=H_ (zsa (x:=zbl rev) (pv:=.slice none 0 0) (Z.length+1) HK1.out.1 HZ.out (by simp) hs3 hg3 (by simpa [Value.ownBlock] using hb3));clear hs3 hg3 hb3 hFr3 hcp2 hfr3 hnew;go_wp2;go_ret;have P:=P3.out;simp only [Nat.add_sub_cancel] at P;refine ⟨rfl,.slice (some ⟨gb,go,none⟩) (Z.length+1) cap,.slice (some ⟨pb,po,none⟩) 1 pc,?_,HK1.out.2.trans P.2.1 ?_,?_,?_⟩
 · have:=P.1
   rw [List.set_append_right _ _ (by omega)] at this;simp only [Nat.sub_self,List.set_cons_zero] at this;exact this
 · intro k hk hk2
   rcases hk2 with rfl | e | ⟨i,q,hq,e⟩
   · exact .inl rfl
   · obtain rfl:gb=k:=by simpa [Value.ownBlock] using e
     rcases hb1 with e | e
     · exact .inr (.inl e)
     omega
   rw [List.getElem?_append] at hq
   split at hq
   · exact .inr (.inr ⟨i,q,hq,e⟩)
   rw [List.getElem?_singleton] at hq
   split at hq
   · simp at hq;subst hq;simp [Value.ownBlock] at e
   cases hq
 · intro b hb
   rcases P.2.2 b hb with e | e
   · simp [Value.ownBlock] at e
   rw [HS2.out] at e;omega
 intro b hb
 obtain rfl:gb=b:=by simpa [Value.ownBlock] using hb
 rcases hb1 with e | e
 · exact .inl e
 right;omega
end Go.Proofs.Ythljnnjpmdgkoaa
