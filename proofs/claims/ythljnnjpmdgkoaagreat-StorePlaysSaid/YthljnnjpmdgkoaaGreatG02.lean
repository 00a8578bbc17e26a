/- Own lemmas and contracts that the claim's proof needs, laid together. The conditions stand in each. -/
import Derived.Test.YthljnnjpmdgkoaaGreatG00
import Derived.Test.YthljnnjpmdgkoaaGreatProg
import Derived.Outline
namespace Go.Proofs.YthljnnjpmdgkoaaGreat
open Go Go.Proofs Go.RowKit
set_option maxRecDepth 100000
structure Gen where
 create:Int
 cut:Int
 puts:List Int
 end_:Int
def genC (p:Gen × Value):List Value:=[.int .i64 p.1.create,.int .i64 p.1.cut,p.2,.int .i64 p.1.end_]
theorem zak (p:Gen × Value):(genC p).length=4:=rfl
structure KeyRep (w:World) (g:Nat) (gv:Value) (Z:List (Gen × Value)) (last:Int):Prop where
 obj:Has w g [gv,.int .i64 last]
 gens:SlF w 223 4 genC gv Z
 puts:∀ (i:Nat) p,Z[i]? = some p->SlF w 3 1 int1 p.2 p.1.puts
 apart:∀ (i:Nat) p,Z[i]? = some p->∀ b,p.2.ownBlock=some b->b≠g/\gv.ownBlock≠some b
 apart2:∀ (i j:Nat) p q,Z[i]? = some p->Z[j]? = some q->∀ b,p.2.ownBlock=some b->q.2.ownBlock=some b->i=j
 own:gv.ownBlock≠some g
def keyF (g:Nat) (gv:Value) (Z:List (Gen × Value)) (b:Nat):Prop:=b=g\/gv.ownBlock=some b\/∃ (i:Nat) (p:Gen × Value),Z[i]? = some p/\p.2.ownBlock=some b
def isOpen (K:List Gen):Bool:=match K.getLast? with
 | some x=>x.end_ == 0
 | none=>false
theorem zta (w:World) (g:Nat) (gv:Value) (Z:List (Gen × Value)) (last:Int) (h:KeyRep w g gv Z last) (ho:isOpen (Z.map (·.1))=false) (hl:Z.length<=1099511627776) :
 Calls Tryz.prog 178 #[.pointer (some ⟨g,0,none⟩)] w fun e w'=>e = .returned (.pointer none)/\w=w':=by
 obtain ⟨a,cap,rfl,hc1,hc2,ha⟩:=h.gens.shape;have hg0:=h.obj.cell 0 rfl;by_cases hz:Z.length=0
 · obtain rfl:=List.eq_nil_of_length_eq_zero hz
   go_enter Tryz.func178,Tryz.ntmps178;go_wp2;go_ret;exact ⟨rfl,rfl⟩
 obtain ⟨gb,go,rfl⟩:=ha (by omega)
 have hx:Z[Z.length - 1]? = some (Z[Z.length - 1]'(by omega)):=List.getElem?_eq_getElem (by omega);have he:=h.gens.cell zak (Z.length - 1) 3 hx rfl;have hz0:(0:Int) < (Z.length:Int):=(by omega)
 have hen:((Z[Z.length - 1]'(by omega)).1.end_ == 0)=false:=by
  unfold isOpen at ho;rw [List.getLast?_map,List.getLast?_eq_getElem?,hx] at ho;exact ho
 generalize (Z[Z.length - 1]'(by omega)).1.end_=en at he hen;clear h hx ha ho;generalize Z.length=n at *;go_enter Tryz.func178,Tryz.ntmps178;go_wp2;go_ret;exact ⟨rfl,rfl⟩
theorem ziq (w:World) (g gb go cap:Nat) (Z:List (Gen × Value)) (last:Int) (h:KeyRep w g (.slice (some ⟨gb,go,none⟩) Z.length cap) Z last) (ho:isOpen (Z.map (·.1))=true) (hl:Z.length<=1099511627776) :
 Calls Tryz.prog 178 #[.pointer (some ⟨g,0,none⟩)] w fun e w'=>e = .returned (.pointer (some ⟨gb,go+(Z.length - 1) * 4,none⟩))/\w=w':=by
 have hg0:=h.obj.cell 0 rfl
 have hz:Z.length≠0:=by
  intro hz;obtain rfl:=List.eq_nil_of_length_eq_zero hz;simp [isOpen] at ho
 have hx:Z[Z.length - 1]? = some (Z[Z.length - 1]'(by omega)):=List.getElem?_eq_getElem (by omega);have he:=h.gens.cell zak (Z.length - 1) 3 hx rfl;have hz0:(0:Int) < (Z.length:Int):=by omega
 have hen:((Z[Z.length - 1]'(by omega)).1.end_ == 0)=true:=by
  unfold isOpen at ho;rw [List.getLast?_map,List.getLast?_eq_getElem?,hx] at ho;exact ho
 obtain ⟨_,_,hv,hc1,hc2,_⟩:=h.gens.shape;cases hv
 generalize (Z[Z.length - 1]'(by omega)).1.end_=en at he hen;clear h hx ho;generalize Z.length=n at *;go_enter Tryz.func178,Tryz.ntmps178;go_wp2;go_ret;exact ⟨rfl,rfl⟩
theorem info3:(Tryz.prog.info? 3).map (fun i=>(i.zero,i.size,i.bytes))=some (some (.int .i64 0),1,8):=by kernel_rfl
theorem info190:(Tryz.prog.info? 223).map (fun i=>(i.zero,i.size,i.bytes))=some (some (.agg #[.int .i64 0,.int .i64 0,.slice none 0 0,.int .i64 0]),4,48):=by kernel_rfl
theorem zsv {w w1:World} {g gb go cap pb po pc:Nat} {Z:List (Gen × Value)} {last rev:Int} {x:Gen} {pv:Value} {ob:Obj} (h:KeyRep w g (.slice (some ⟨gb,go,none⟩) Z.length cap) Z last) (hx:Z[Z.length - 1]? = some (x,pv))
 (hs1:SlF w1 3 1 int1 (.slice (some ⟨pb,po,none⟩) (x.puts.length+1) pc) (x.puts++[rev])) (hg1:(w.alloc ob).grownBy w1 pv.ownBlock) (hb1:pv.ownBlock=some pb\/pb=w.heap.size+1) :
 KeyRep (w1.setCell ⟨gb,go+(Z.length - 1) * 4+2,none⟩ (.slice (some ⟨pb,po,none⟩) (x.puts.length+1) pc)) g (.slice (some ⟨gb,go,none⟩) Z.length cap)
  (Z.set (Z.length - 1) ({ x with puts:=x.puts++[rev] },.slice (some ⟨pb,po,none⟩) (x.puts.length+1) pc)) last ∧
 Fr (keyF g (.slice (some ⟨gb,go,none⟩) Z.length cap) Z) w (w1.setCell ⟨gb,go+(Z.length - 1) * 4+2,none⟩ (.slice (some ⟨pb,po,none⟩) (x.puts.length+1) pc)) ∧
 (∀ b,(Value.slice (some ⟨pb,po,none⟩) (x.puts.length+1) pc).ownBlock=some b->pv.ownBlock=some b\/w.heap.size<=b):=by
 have hzl:Z.length - 1 < Z.length:=(List.getElem?_eq_some_iff.1 hx).1;have hap:=h.apart _ _ hx;have hgl:gb < w.heap.size:=h.gens.lt gb rfl;have hF0:Fr (fun k=>pv.ownBlock=some k) w w1:=(((Fr.refl _ w).alloc _).grown hg1 fun k hk=>.inl hk);have hgn:¬ pv.ownBlock=some gb:=fun e=>(hap gb e).2 rfl;have hgens1:SlF w1 223 4 genC (.slice (some ⟨gb,go,none⟩) Z.length cap) Z:=h.gens.fr hF0 fun k hk hs=>by cases hk;exact hgn hs
 have hne:gb≠pb:=by
  rintro rfl;rcases hb1 with e | e
  · exact hgn e
  omega
 have hown':∀ b,(Value.slice (some ⟨pb,po,none⟩) (x.puts.length+1) pc).ownBlock=some b->pv.ownBlock=some b\/w.heap.size<=b:=by
  intro b hb;obtain rfl:pb=b:=by simpa [Value.ownBlock] using hb
  rcases hb1 with e | e
  · exact .inl e
  right;omega
 have hF:Fr (keyF g (.slice (some ⟨gb,go,none⟩) Z.length cap) Z) w (w1.setCell ⟨gb,go+(Z.length - 1) * 4+2,none⟩ (.slice (some ⟨pb,po,none⟩) (x.puts.length+1) pc)):=by
  refine (hF0.mono ?_).setCell (.inl (.inr (.inl rfl))) _;intro k _ hk;exact .inr (.inr ⟨_,_,hx,hk⟩)
 have hown:∀ (i:Nat) q,Z[i]? = some q->∀ b,q.2.ownBlock=some b->b < w.heap.size:=fun i q hq=>(h.puts i q hq).lt;refine ⟨?_,hF,hown'⟩
 constructor
 · have:=h.obj.fr hF0 fun e=>(hap g e).1 rfl
   exact this.other _ _ (fun e=>h.own (by rw [e];rfl))
 · simpa using hgens1.set zak _ 2 (by omega) (x,pv) ({ x with puts:=x.puts++[rev] },.slice (some ⟨pb,po,none⟩) (x.puts.length+1) pc) _ hx rfl
 · intro i q hq
   rw [List.getElem?_set] at hq
   split at hq
   · simp at hq
     subst hq;have:=hs1.other ⟨gb,go+(Z.length - 1) * 4+2,none⟩ (.slice (some ⟨pb,po,none⟩) (x.puts.length+1) pc) (by simpa [Value.ownBlock] using Ne.symm hne);simpa [SlF] using this
   rename_i hne2
   have hq':=h.puts i q hq;have hnp:∀ b,q.2.ownBlock=some b->¬ pv.ownBlock=some b:=fun b hb hb'=>hne2 (h.apart2 _ _ _ _ hx hq b hb' hb);refine (hq'.fr hF0 hnp).other _ _ ?_;intro e;exact (h.apart i q hq gb e).2 rfl
 · intro i q hq b hb
   rw [List.getElem?_set] at hq
   split at hq
   · simp at hq
     subst hq;rcases hown' b hb with e | e
     · exact hap b e
     have:=h.obj.lt
     refine ⟨by omega,?_⟩;simp [Value.ownBlock];omega
   exact h.apart i q hq b hb
 · intro i j q r hq hr b hb hb'
   rw [List.getElem?_set] at hq hr
   split at hq <;> split at hr
   · omega
   · rename_i e1 e2
     simp at hq;subst hq;rcases hown' b hb with e | e
     · exact e1 ▸ h.apart2 _ _ _ _ hx hr b e hb'
     have:=hown _ _ hr b hb';omega
   · rename_i e1 e2
     simp at hr;subst hr;rcases hown' b hb' with e | e
     · exact e2 ▸ h.apart2 _ _ _ _ hq hx b hb e
     have:=hown _ _ hq b hb;omega
   exact h.apart2 i j q r hq hr b hb hb'
 exact h.own
theorem zuv (n:Nat) {w w1:World} {g gb go cap pb po pc:Nat} {Z:List (Gen × Value)} {last rev:Int} {x:Gen} {pv:Value} {ob:Obj} (h:KeyRep w g (.slice (some ⟨gb,go,none⟩) n cap) Z last) (hn:Z.length=n) (hx:Z[n - 1]? = some (x,pv))
 (hs1:SlF w1 3 1 int1 (.slice (some ⟨pb,po,none⟩) (x.puts.length+1) pc) (x.puts++[rev])) (hg1:(w.alloc ob).grownBy w1 pv.ownBlock) (hb1:pv.ownBlock=some pb\/pb=w.heap.size+1) :
 KeyRep (w1.setCell ⟨gb,go+(n - 1) * 4+2,none⟩ (.slice (some ⟨pb,po,none⟩) (x.puts.length+1) pc)) g (.slice (some ⟨gb,go,none⟩) n cap)
  (Z.set (n - 1) ({ x with puts:=x.puts++[rev] },.slice (some ⟨pb,po,none⟩) (x.puts.length+1) pc)) last ∧
 Fr (keyF g (.slice (some ⟨gb,go,none⟩) n cap) Z) w (w1.setCell ⟨gb,go+(n - 1) * 4+2,none⟩ (.slice (some ⟨pb,po,none⟩) (x.puts.length+1) pc)) ∧
 (∀ b,(Value.slice (some ⟨pb,po,none⟩) (x.puts.length+1) pc).ownBlock=some b->pv.ownBlock=some b\/w.heap.size<=b):=by
 subst hn;exact zsv h hx hs1 hg1 hb1
theorem zuu (w:World) (g:Nat) (gv:Value) (Z:List (Gen × Value)) (last rev:Int) (x:Gen) (pv:Value) (h:KeyRep w g gv Z last) (hx:Z[Z.length - 1]? = some (x,pv))
 (ho:isOpen (Z.map (·.1))=true) (hl:Z.length<=1099511627776) (hp:x.puts.length<=1099511627776) :
 Calls Tryz.prog 160 #[.pointer (some ⟨g,0,none⟩),.int .i64 rev] w fun e w'=>e = .returned (.int .i64 0) ∧
  ∃ v',KeyRep w' g gv (Z.set (Z.length - 1) ({ x with puts:=x.puts++[rev] },v')) last/\Fr (keyF g gv Z) w w'/\(∀ b,v'.ownBlock=some b->pv.ownBlock=some b\/w.heap.size<=b):=by
 obtain ⟨a,cap,rfl,hc1,hc2,ha⟩:=h.gens.shape;have hzl:Z.length - 1 < Z.length:=(List.getElem?_eq_some_iff.1 hx).1;obtain ⟨gb,go,rfl⟩:=ha (by omega);have hg0:=h.obj.cell 0 rfl;have hcp:=h.gens.cell zak (Z.length - 1) 2 hx rfl;have hpv:=h.puts _ _ hx;have hap:=h.apart _ _ hx;have hopen:=ziq w g gb go cap Z last h ho hl;obtain ⟨i0,hi,hz0,hz1,hz2⟩:=info_parts info3;have hnew:=zar w [Value.int .i64 rev] 3 (0,0);have H:=H_ h;clear h;have HX:=H_ hx;clear hx;go_enter Tryz.func160,Tryz.ntmps160
 go_wp2_with (first
  | (go_at_call 178;refine hopen.mono ?_;clear hopen;rintro e w' ⟨rfl,rfl⟩)
  | (at_builtin;refine zao rfl _ _ 76 rfl 3 i0 (.int .i64 0) 1 8 Tryz.underlying76 hi hz0 hz1 hz2 rfl (by decide) pv x.puts rfl (hpv.alloc _) w.heap.size 1 rev rfl hnew rfl ?c1 ?c2 ?c3 ?_))
 case c1=>intro u hu;simp [int1] at hu;subst hu;rfl
 case c2=>unfold maxLen;omega
 case c3=>omega
 intro pb po pc w1 hs1 hg1 hb1 hlt1;have hF0:Fr (fun k=>pv.ownBlock=some k) w w1:=(((Fr.refl _ w).alloc _).grown hg1 fun k hk=>.inl hk);have hgens1:SlF w1 223 4 genC (.slice (some ⟨gb,go,none⟩) Z.length cap) Z:=H.out.gens.fr hF0 fun k hk hs=>by cases hk;exact (hap gb hs).2 rfl
 have hcp1:=hgens1.cell zak (Z.length - 1) 2 HX.out rfl;have hfr1:=hgens1.free (go+(Z.length - 1) * 4+2);have H1:=H_ (zsv H.out HX.out hs1 hg1 (by simpa using hb1));clear hs1 hgens1 hg0 hcp hnew hg1 hb1 hF0;go_wp2;go_ret;exact ⟨rfl,_,H1.out⟩
theorem zrc (n:Nat) (w:World) (g gb go cap:Nat) (Z:List (Gen × Value)) (last:Int) (h:KeyRep w g (.slice (some ⟨gb,go,none⟩) n cap) Z last) (hn:Z.length=n) (ho:isOpen (Z.map (·.1))=true) (hl:n<=1099511627776) :
 Calls Tryz.prog 178 #[.pointer (some ⟨g,0,none⟩)] w fun e w'=>e = .returned (.pointer (some ⟨gb,go+(n - 1) * 4,none⟩))/\w=w':=by
 subst hn;exact ziq w g gb go cap Z last h ho hl
def zcd (rev:Int):Gen:={ create:=rev,cut:=0,puts:=[],end_:=0 }
theorem zvl {w w1:World} {g gb go cap:Nat} {gv:Value} {Z:List (Gen × Value)} {last rev:Int} {ob:Obj} (h:KeyRep w g gv Z last)
 (hs1:SlF w1 223 4 genC (.slice (some ⟨gb,go,none⟩) (Z.length+1) cap) (Z++[(zcd rev,.slice none 0 0)])) (hg1:(w.alloc ob).grownBy w1 gv.ownBlock) (hb1:gv.ownBlock=some gb\/gb=w.heap.size+1) :
 KeyRep (w1.setCell ⟨g,0,none⟩ (.slice (some ⟨gb,go,none⟩) (Z.length+1) cap)) g (.slice (some ⟨gb,go,none⟩) (Z.length+1) cap) (Z++[(zcd rev,.slice none 0 0)]) last ∧
 Fr (keyF g gv Z) w (w1.setCell ⟨g,0,none⟩ (.slice (some ⟨gb,go,none⟩) (Z.length+1) cap)):=by
 have hF0:Fr (fun k=>gv.ownBlock=some k) w w1:=(((Fr.refl _ w).alloc _).grown hg1 fun k hk=>.inl hk)
 have hne:gb≠g:=by
  rintro rfl;rcases hb1 with e | e
  · exact h.own e
  have:=h.obj.lt;omega
 have hget:∀ (i:Nat) q,(Z++[(zcd rev,Value.slice none 0 0)])[i]? = some q->Z[i]? = some q\/q=(zcd rev,.slice none 0 0):=by
  intro i q hq;rw [List.getElem?_append] at hq
  split at hq
  · exact .inl hq
  right
  rw [List.getElem?_singleton] at hq
  split at hq
  · simpa using hq.symm
  cases hq
 refine ⟨?_,?_⟩
 · constructor
   · have:=(h.obj.fr hF0 h.own).set 0 (.slice (some ⟨gb,go,none⟩) (Z.length+1) cap)
     exact this
   · exact hs1.other _ _ (by simpa [Value.ownBlock] using hne)
   · intro i q hq
     rcases hget i q hq with h1 | rfl
     · exact ((h.puts i q h1).fr hF0 fun b hb hb'=>(h.apart i q h1 b hb).2 hb').other _ _ fun e=>(h.apart i q h1 g e).1 rfl
     exact SlF.nil _ _ _ _
   · intro i q hq b hb
     rcases hget i q hq with h1 | rfl
     · refine ⟨(h.apart i q h1 b hb).1,?_⟩
       have hbl:=(h.puts i q h1).lt b hb;have hb2:=(h.apart i q h1 b hb).2;simp only [Value.ownBlock,ne_eq,Option.some.injEq];rintro rfl;rcases hb1 with e | e
       · exact hb2 e
       omega
     simp [Value.ownBlock] at hb
   · intro i j q r hq hr b hb hb'
     rcases hget i q hq with h1 | rfl
     · rcases hget j r hr with h2 | rfl
       · exact h.apart2 i j q r h1 h2 b hb hb'
       simp [Value.ownBlock] at hb'
     simp [Value.ownBlock] at hb
   simpa [Value.ownBlock] using hne
 exact (hF0.mono fun k _ hk=>.inr (.inl hk)).setCell (.inl (.inl rfl)) _
theorem zoo (K:List Gen) (rev:Int):isOpen (K++[zcd rev])=true:=by simp [isOpen,zcd]
theorem zwk (w:World) (g:Nat) (gv:Value) (Z:List (Gen × Value)) (last rev:Int) (h:KeyRep w g gv Z last)
 (ho:isOpen (Z.map (·.1))=false) (hl:Z.length<=1099511627) :
 Calls Tryz.prog 160 #[.pointer (some ⟨g,0,none⟩),.int .i64 rev] w fun e w'=>e = .returned (.int .i64 0) ∧
  ∃ gv' v',KeyRep w' g gv' (Z++[({ zcd rev with puts:=[rev] },v')]) last/\Fr (keyF g gv Z) w w'/\(∀ b,v'.ownBlock=some b->w.heap.size<=b)/\(∀ b,gv'.ownBlock=some b->gv.ownBlock=some b\/w.heap.size<=b):=by
 have hg0:=h.obj.cell 0 rfl;have hg1:=h.obj.free 0;have hgl:=h.obj.lt;have hopen:=zta w g gv Z last h ho (by omega);have hgs:=h.gens;obtain ⟨i0,hi,hz0,hz1,hz2⟩:=info_parts info3;obtain ⟨j0,hj,hy0,hy1,hy2⟩:=info_parts info190;have hnew:=zar w (genC (zcd rev,.slice none 0 0)) 223 (0,0);have H:=H_ h;clear h;go_enter Tryz.func160,Tryz.ntmps160
 go_wp2_with (first
  | (go_at_call 178;refine hopen.mono ?_;clear hopen;rintro e w' ⟨rfl,rfl⟩)
  | (at_builtin;refine zao rfl _ _ 220 rfl 223 j0 _ 4 48 Tryz.underlying220 hj hy0 hy1 hy2 rfl (by decide) gv Z rfl (hgs.alloc _) w.heap.size 1 (zcd rev,.slice none 0 0) rfl hnew rfl ?c1 ?c2 ?c3 ?_))
 case c1=>intro u hu;simp [genC] at hu;rcases hu with rfl | rfl | rfl | rfl <;> rfl
 case c2=>unfold maxLen;omega
 case c3=>omega
 intro gb go cap w1 hs1 hgr1 hb1 hlt1;have hF0:Fr (fun k=>gv.ownBlock=some k) w w1:=(((Fr.refl _ w).alloc _).grown hgr1 fun k hk=>.inl hk);have hobj1:=H.out.obj.fr hF0 H.out.own;have hg01:=hobj1.cell 0 rfl;have hf01:=hobj1.free 0;have K1:=zvl H.out hs1 hgr1 (by simpa using hb1);have hZl:(Z++[(zcd rev,Value.slice none 0 0)]).length=Z.length+1:=by simp
 have hl1:w.heap.size+1<=w1.heap.size:=by have:=hgr1.size;simpa using this
 have hopen2:=zrc (Z.length+1) _ g gb go cap _ last K1.1 hZl (by rw [List.map_append];exact zoo _ rev) (by omega);have hxl:(Z++[(zcd rev,Value.slice none 0 0)])[Z.length]? = some (zcd rev,.slice none 0 0):=by simp
 have hcp2:=SlF.cell (L:=Z++[(zcd rev,Value.slice none 0 0)]) (g:=gb) (o:=go) (cap:=cap) zak (by rw [hZl];exact K1.1.gens) Z.length 2 hxl rfl;have hfr2:=SlF.free (L:=Z++[(zcd rev,Value.slice none 0 0)]) (g:=gb) (o:=go) (cap:=cap) (by rw [hZl];exact K1.1.gens) (go+Z.length * 4+2);rw [World.frozen?_setCell] at hfr2;have hk1:Z.length+1 - 1=Z.length:=by omega
 rw [hk1] at hopen2;obtain ⟨w2,hw2⟩:∃ w2,w2=w1.setCell ⟨g,0,none⟩ (.slice (some ⟨gb,go,none⟩) (Z.length+1) cap):=⟨_,rfl⟩;rw [<-hw2] at hopen2 hcp2 K1;have HK1:=H_ K1;have HZ:=H_ hZl;clear hs1 hgr1 hg0 hg1 hnew hgs hj hobj1 hgl hxl K1 hZl hk1 hF0 hy0 hy1 hy2;go_wp2_with fail;rw [<-hw2];refine hopen2.mono ?_;clear hopen2;rintro e w' ⟨rfl,rfl⟩;have HS2:Hid (w2.heap.size=w1.heap.size):=H_ (by rw [hw2];simp);have hfr3:w2.frozen? ⟨gb,go+Z.length * 4+2,none⟩=false:=by rw [hw2];simpa using hfr2
 have hnew:=zar w2 [Value.int .i64 rev] 3 (0,0);have HW:=H_ hw2;clear hw2 hfr2;clear hg01 hf01;go_wp2_with (at_builtin;refine zao (f:=int1) rfl _ _ 76 rfl 3 i0 (.int .i64 0) 1 8 Tryz.underlying76 hi hz0 hz1 hz2 rfl (by decide) (.slice none 0 0) ([]:List Int) rfl (SlF.nil _ _ _ _) w2.heap.size 1 rev rfl hnew rfl ?c1 ?c2 ?c3 ?_)
 case c1=>intro u hu;simp [int1] at hu;subst hu;rfl
 case c2=>decide
 case c3=>decide
 intro pb po pc w3 hs3 hg3 hb3 hlt3;have hFr3:Fr No w2 w3:=(((Fr.refl _ w2).alloc _).grown hg3 fun k hk=>by simp [Value.ownBlock] at hk);have hcp3:=hFr3.cell0 hcp2;have hgb2:gb < w2.heap.size:=HK1.out.1.gens.lt gb rfl
 have hfr4:w3.frozen? ⟨gb,go+Z.length * 4+2,none⟩=false:=by
  rw [World.frozen?_of_block (hFr3.block gb hgb2 fun s=>s)];exact hfr3
 have P3:=H_ (zuv (x:=zcd rev) (pv:=.slice none 0 0) (Z.length+1) HK1.out.1 HZ.out (by simp) hs3 hg3 (by simpa [Value.ownBlock] using hb3));clear hs3 hg3 hb3 hFr3 hcp2 hfr3 hnew;go_wp2;go_ret;have P:=P3.out;simp only [Nat.add_sub_cancel] at P;refine ⟨rfl,.slice (some ⟨gb,go,none⟩) (Z.length+1) cap,.slice (some ⟨pb,po,none⟩) 1 pc,?_,HK1.out.2.trans P.2.1 ?_,?_,?_⟩
 · have:=P.1
   rw [List.set_append_right _ _ (by omega)] at this;simp only [Nat.sub_self,List.set_cons_zero] at this;exact this
 · intro k hk hk2
   rcases hk2 with rfl | e | ⟨i,q,hq,e⟩
   · exact .inl rfl
   · obtain rfl:gb=k:=by simpa [Value.ownBlock] using e
     rcases hb1 with e | e
     · exact .inr (.inl e)
     omega
   rw [List.getElem?_append] at hq
   split at hq
   · exact .inr (.inr ⟨i,q,hq,e⟩)
   rw [List.getElem?_singleton] at hq
   split at hq
   · simp at hq;subst hq;simp [Value.ownBlock] at e
   cases hq
 · intro b hb
   rcases P.2.2 b hb with e | e
   · simp [Value.ownBlock] at e
   rw [HS2.out] at e;omega
 intro b hb
 obtain rfl:gb=b:=by simpa [Value.ownBlock] using hb
 rcases hb1 with e | e
 · exact .inl e
 right;omega
def KeyAt (w:World) (g:Nat) (K:List Gen) (last:Int) (F:Nat->Prop):Prop :=
 ∃ gv Z,KeyRep w g gv Z last/\Z.map (·.1)=K/\∀ b,F b ↔ keyF g gv Z b
theorem zwr {w:World} {g:Nat} {gv:Value} {Z:List (Gen × Value)} {last:Int} (h:KeyRep w g gv Z last):∀ b,keyF g gv Z b->b < w.heap.size:=by
 rintro b (rfl | e | ⟨i,p,hp,e⟩)
 · exact h.obj.lt
 · exact h.gens.lt b e
 exact (h.puts i p hp).lt b e
theorem KeyAt.lt {w:World} {g:Nat} {K:List Gen} {last:Int} {F:Nat->Prop} (h:KeyAt w g K last F):∀ b,F b->b < w.heap.size:=by
 obtain ⟨gv,Z,h,_,hF⟩:=h;exact fun b hb=>zwr h b ((hF b).1 hb)
theorem KeyRep.fr {w w':World} {g:Nat} {gv:Value} {Z:List (Gen × Value)} {last:Int} {S:Nat->Prop} (h:KeyRep w g gv Z last) (hf:Fr S w w') (hn:∀ b,keyF g gv Z b->¬ S b):KeyRep w' g gv Z last :=
 ⟨h.obj.fr hf (hn g (.inl rfl)),h.gens.fr hf fun k hk=>hn k (.inr (.inl hk)),fun i p hp=>(h.puts i p hp).fr hf fun k hk=>hn k (.inr (.inr ⟨i,p,hp,hk⟩)),h.apart,h.apart2,h.own⟩
theorem KeyAt.fr {w w':World} {g:Nat} {K:List Gen} {last:Int} {F S:Nat->Prop} (h:KeyAt w g K last F) (hf:Fr S w w') (hn:∀ b,F b->¬ S b):KeyAt w' g K last F:=by
 obtain ⟨gv,Z,h,hZ,hF⟩:=h;exact ⟨gv,Z,h.fr hf fun b hb=>hn b ((hF b).2 hb),hZ,hF⟩
def putK (K:List Gen) (rev:Int):List Gen :=
 if isOpen K then K.modify (K.length - 1) fun x=>{ x with puts:=x.puts++[rev] } else K++[{ create:=rev,cut:=0,puts:=[rev],end_:=0 }]
def Fits (K:List Gen):Prop:=K.length<=1099511627/\∀ x∈K,x.puts.length<=1099511627/\0<=x.cut/\x.cut<=1099511627776
theorem zsw (w:World) (g:Nat) (K:List Gen) (last rev:Int) (F:Nat->Prop) (h:KeyAt w g K last F) (hK:Fits K) :
 Calls Tryz.prog 160 #[.pointer (some ⟨g,0,none⟩),.int .i64 rev] w fun e w'=>e = .returned (.int .i64 0) ∧
  ∃ F',KeyAt w' g (putK K rev) last F'/\Fr F w w'/\(∀ b,F' b->F b\/w.heap.size<=b):=by
 obtain ⟨gv,Z,h,rfl,hF⟩:=h;have hl:Z.length<=1099511627:=by have:=hK.1;simpa using this
 by_cases ho:isOpen (Z.map (·.1))=true
 · have hz:Z.length≠0:=by
    intro hz;obtain rfl:=List.eq_nil_of_length_eq_zero hz;simp [isOpen] at ho
   obtain ⟨x,pv,hx⟩:∃ x pv,Z[Z.length - 1]? = some (x,pv):=⟨_,_,List.getElem?_eq_getElem (by omega)⟩;have hp:x.puts.length<=1099511627:=(hK.2 x (List.mem_map.2 ⟨_,List.mem_of_getElem? hx,rfl⟩)).1;refine (zuu w g gv Z last rev x pv h hx ho (by omega) (by omega)).mono ?_;rintro e w' ⟨rfl,v',h',hf,hv⟩;refine ⟨rfl,_,⟨gv,_,h',?_,fun b=>Iff.rfl⟩,hf.mono fun b _ hb=>(hF b).2 hb,?_⟩
   · unfold putK
     rw [if_pos ho];apply List.ext_getElem?;intro i;have hzl:Z.length - 1 < Z.length:=(by omega);by_cases hi:Z.length - 1=i
     · subst hi
       have hx':Z[Z.length - 1] = (x,pv):=(List.getElem?_eq_some_iff.1 hx).2;simp [hzl,hx']
     simp [hi]
   rintro b (rfl | e | ⟨i,q,hq,e⟩)
   · exact .inl ((hF _).2 (.inl rfl))
   · exact .inl ((hF _).2 (.inr (.inl e)))
   rw [List.getElem?_set] at hq
   split at hq
   · split at hq
     · simp at hq
       subst hq;rcases hv b e with e | e
       · exact .inl ((hF _).2 (.inr (.inr ⟨_,_,hx,e⟩)))
       exact .inr e
     cases hq
   exact .inl ((hF _).2 (.inr (.inr ⟨_,_,hq,e⟩)))
 simp only [Bool.not_eq_true] at ho
 refine (zwk w g gv Z last rev h ho hl).mono ?_;rintro e w' ⟨rfl,gv',v',h',hf,hv,hgv⟩;refine ⟨rfl,_,⟨gv',_,h',?_,fun b=>Iff.rfl⟩,hf.mono fun b _ hb=>(hF b).2 hb,?_⟩
 · unfold putK
   rw [ho];simp [zcd]
 rintro b (rfl | e | ⟨i,q,hq,e⟩)
 · exact .inl ((hF _).2 (.inl rfl))
 · rcases hgv b e with e | e
   · exact .inl ((hF _).2 (.inr (.inl e)))
   exact .inr e
 rw [List.getElem?_append] at hq
 split at hq
 · exact .inl ((hF _).2 (.inr (.inr ⟨_,_,hq,e⟩)))
 rw [List.getElem?_singleton] at hq
 split at hq
 · simp at hq
   subst hq;exact .inr (hv b e)
 cases hq
theorem KeyAt.setLast {w w':World} {g:Nat} {K:List Gen} {last:Int} {F:Nat->Prop} (h:KeyAt w g K last F) (rev:Int) (hw:w'=w.setCell ⟨g,1,none⟩ (.int .i64 rev)):KeyAt w' g K rev F:=by
 subst hw;obtain ⟨gv,Z,h,hZ,hF⟩:=h;refine ⟨gv,Z,⟨h.obj.set 1 _,h.gens.other _ _ h.own,fun i p hp=>(h.puts i p hp).other _ _ fun e=>(h.apart i p hp _ e).1 rfl,h.apart,h.apart2,h.own⟩,hZ,hF⟩
theorem KeyAt.cells {w:World} {g:Nat} {K:List Gen} {last:Int} {F:Nat->Prop} (h:KeyAt w g K last F):w.cell? ⟨g,1,none⟩=some (.int .i64 last)/\w.frozen? ⟨g,1,none⟩=false/\F g/\g < w.heap.size:=by
 obtain ⟨gv,Z,h,hZ,hF⟩:=h;exact ⟨h.obj.cell 1 rfl,h.obj.free 1,(hF g).2 (.inl rfl),h.obj.lt⟩
theorem zuh (w:World) (g:Nat) (K:List Gen) (last rev:Int) (F:Nat->Prop) (h:KeyAt w g K last F) (hK:Fits K) (h1:1<=rev) (h2:rev<=1099511627776) (h3:last < rev) :
 Calls Tryz.prog 118 #[.pointer (some ⟨g,0,none⟩),.int .i64 rev] w fun e w'=>e = .returned (.int .i64 0) ∧
  ∃ F',KeyAt w' g (putK K rev) rev F'/\Fr F w w'/\(∀ b,F' b->F b\/w.heap.size<=b):=by
 have hput:=zsw w g K last rev F h hK;obtain ⟨hc,hfr,hFg,hgl⟩:=h.cells;have hmf:∀ (fn:Fn) (first cap:Array Value) (w:World),(Instr.makeFunc fn first cap).run Tryz.prog w = .ok (.func fn first cap) w:=fun _ _ _ _=>rfl;have t1:¬ rev < 1:=by omega
 have t2:¬ 1099511627776 < rev:=by omega
 have t3:¬ rev<=last:=by omega
 clear h hK;go_enter Tryz.func118,Tryz.ntmps118
 go_wp2_with (first
  | (go_at_call 160;refine hput.mono ?_;clear hput;rintro e w1 ⟨rfl,F',hk1,hf1,hF1⟩;obtain ⟨hc1,hfr1,_,_⟩:=hk1.cells;have HK:=H_ hk1;clear hk1)
  | (go_at_call 159;go_in))
 go_ret;refine ⟨rfl,F',HK.out.setLast rev rfl,hf1.setCell (.inl hFg) _,hF1⟩
def tombK (K:List Gen) (rev:Int):List Gen:=K.modify (K.length - 1) fun x=>{ x with end_:=rev }
theorem zii (w:World) (g:Nat) (K:List Gen) (last rev:Int) (F:Nat->Prop) (h:KeyAt w g K last F) (hK:Fits K) (ho:isOpen K=true) :
 Calls Tryz.prog 163 #[.pointer (some ⟨g,0,none⟩),.int .i64 rev] w fun e w'=>e = .returned (.int .i64 0)/\KeyAt w' g (tombK K rev) last F/\Fr F w w':=by
 obtain ⟨gv,Z,h,rfl,hF⟩:=h;have hl:Z.length<=1099511627:=by have:=hK.1;simpa using this
 have hz:Z.length≠0:=by
  intro hz;obtain rfl:=List.eq_nil_of_length_eq_zero hz;simp [isOpen] at ho
 obtain ⟨x,pv,hx⟩:∃ x pv,Z[Z.length - 1]? = some (x,pv):=⟨_,_,List.getElem?_eq_getElem (by omega)⟩;obtain ⟨a,cap,rfl,hc1,hc2,ha⟩:=h.gens.shape;obtain ⟨gb,go,rfl⟩:=ha (by omega);have hopen:=ziq w g gb go cap Z last h ho (by omega);have hc:=h.gens.cell zak (Z.length - 1) 3 hx rfl;have hfr:=h.gens.free (go+(Z.length - 1) * 4+3);have hzl:Z.length - 1 < Z.length:=by omega
 have hgb:gb < w.heap.size:=h.gens.lt gb rfl;have H:=H_ h;clear h;have HX:=H_ hx;clear hx;clear ha ho hK hz;have HF:=H_ hF;clear hF;go_enter Tryz.func163,Tryz.ntmps163;go_wp2_with (go_at_call 178;refine hopen.mono ?_;clear hopen;rintro e w' ⟨rfl,rfl⟩);go_ret;have h:=H.out;have hx:=HX.out;have hF:=HF.out;refine ⟨rfl,⟨.slice (some ⟨gb,go,none⟩) Z.length cap,Z.set (Z.length - 1) ({ x with end_:=rev },pv),?_,?_,?_⟩,(Fr.refl _ w).setCell (p:=⟨gb,go+(Z.length - 1) * 4+3,none⟩) (.inl ((hF gb).2 (.inr (.inl rfl)))) _⟩
 · constructor
   · exact h.obj.other _ _ fun e=>h.own (by rw [e];rfl)
   · simpa using h.gens.set zak _ 3 (by omega) (x,pv) ({ x with end_:=rev },pv) _ hx rfl
   · intro i q hq
     rw [List.getElem?_set] at hq
     split at hq
     · simp at hq
       subst hq;exact (h.puts _ _ hx).other _ _ fun e=>(h.apart _ _ hx _ e).2 rfl
     exact (h.puts _ _ hq).other _ _ fun e=>(h.apart _ _ hq _ e).2 rfl
   · intro i q hq b hb
     rw [List.getElem?_set] at hq
     split at hq
     · simp at hq
       subst hq;exact h.apart _ _ hx b hb
     exact h.apart _ _ hq b hb
   · intro i j q r hq hr b hb hb'
     rw [List.getElem?_set] at hq hr
     split at hq <;> split at hr
     · omega
     · rename_i e1 e2
       simp at hq;subst hq;exact e1 ▸ h.apart2 _ _ _ _ hx hr b hb hb'
     · rename_i e1 e2
       simp at hr;subst hr;exact e2 ▸ h.apart2 _ _ _ _ hq hx b hb hb'
     exact h.apart2 _ _ _ _ hq hr b hb hb'
   exact h.own
 · unfold tombK
   apply List.ext_getElem?;intro i;by_cases hi:Z.length - 1=i
   · subst hi
     have hx':Z[Z.length - 1] = (x,pv):=(List.getElem?_eq_some_iff.1 hx).2;simp [hzl,hx']
   simp [hi]
 intro b
 rw [hF]
 constructor
 · rintro (rfl | e | ⟨i,q,hq,e⟩)
   · exact .inl rfl
   · exact .inr (.inl e)
   by_cases hi:Z.length - 1=i
   · subst hi
     rw [hx] at hq;cases hq
     exact .inr (.inr ⟨Z.length - 1,({ x with end_:=rev },pv),by simp [hzl],e⟩)
   exact .inr (.inr ⟨i,q,by simp [hi,hq],e⟩)
 rintro (rfl | e | ⟨i,q,hq,e⟩)
 · exact .inl rfl
 · exact .inr (.inl e)
 rw [List.getElem?_set] at hq
 split at hq
 · simp at hq
   subst hq;exact .inr (.inr ⟨_,_,hx,e⟩)
 exact .inr (.inr ⟨_,_,hq,e⟩)
theorem zjl (w:World) (g:Nat) (K:List Gen) (last rev:Int) (F:Nat->Prop) (h:KeyAt w g K last F) (hK:Fits K) (ho:isOpen K=true) (h1:1<=rev) (h2:rev<=1099511627776) (h3:last < rev) :
 Calls Tryz.prog 123 #[.pointer (some ⟨g,0,none⟩),.int .i64 rev] w fun e w'=>e = .returned (.int .i64 0)/\KeyAt w' g (tombK K rev) rev F/\Fr F w w':=by
 have htomb:=zii w g K last rev F h hK ho;obtain ⟨hc,hfr,hFg,hgl⟩:=h.cells;have hmf:∀ (fn:Fn) (first cap:Array Value) (w:World),(Instr.makeFunc fn first cap).run Tryz.prog w = .ok (.func fn first cap) w:=fun _ _ _ _=>rfl;have t1:¬ rev < 1:=by omega
 have t2:¬ 1099511627776 < rev:=by omega
 have t3:¬ rev<=last:=by omega
 clear h hK ho;go_enter Tryz.func123,Tryz.ntmps123
 go_wp2_with (first
  | (go_at_call 163;refine htomb.mono ?_;clear htomb;rintro e w1 ⟨rfl,hk1,hf1⟩;obtain ⟨hc1,hfr1,_,_⟩:=hk1.cells;have HK:=H_ hk1;clear hk1)
  | (go_at_call 159;go_in))
 go_ret;exact ⟨rfl,HK.out.setLast rev rfl,hf1.setCell (.inl hFg) _⟩
theorem zlu (w:World):Calls Tryz.prog 117 #[] w fun e w'=>∃ g,e = .returned (.pointer (some ⟨g,0,none⟩))/\∃ F,KeyAt w' g [] 0 F/\Fr No w w'/\(∀ b,F b->w.heap.size<=b):=by
 go_enter Tryz.func117,Tryz.ntmps117;go_wp2;go_ret;refine ⟨_,rfl,keyF w.heap.size (.slice none 0 0) [],⟨.slice none 0 0,[],⟨Has.new w _ _,SlF.nil _ _ _ _,by simp,by simp,by simp,by simp [Value.ownBlock]⟩,rfl,fun b=>Iff.rfl⟩,(Fr.refl _ w).alloc _,?_⟩;rintro b (rfl | e | ⟨i,q,hq,e⟩)
 · omega
 · simp [Value.ownBlock] at e
 simp at hq
def upTo (l:List Int) (rev:Int):Nat:=l.findIdx fun p=>decide (rev < p)
def idxInt (l:List Int) (rev:Int):Int:=if upTo l rev=l.length then -1 else (upTo l rev:Int)
theorem zjx (w:World) (v:Value) (l:List Int) (rev:Int) (tb:Nat) (hv:SlF w 3 1 int1 v l) (hl:l.length<=1099511627776) (ht:w.cell? ⟨tb,0,none⟩=some (.int .i64 rev)) :
 Calls Tryz.prog 168 #[v,.func (.func 169) #[] #[.pointer (some ⟨tb,0,none⟩)]] w fun e w'=>e = .returned (.int .i64 (idxInt l rev))/\w=w':=by
 obtain ⟨a,cap,rfl,hc1,hc2,ha⟩:=hv.shape;have HV:=H_ hv;clear hv;have HA:=H_ ha;clear ha;go_enter Tryz.func168,Tryz.ntmps168;go_wp2
 go_loopg [8] l.length (fun g s8 wr=>∃ i:Nat,s8 = .int .i64 i/\i+g=l.length/\Hid (∀ j,j < i->¬ rev < l[j]?.getD 0)/\w=wr)
 case atStart=>exact ⟨0,rfl,by simp,H_ (by simp),rfl⟩
 case round =>
  obtain ⟨i,rfl,hi,HJ,rfl⟩:=hrel
  cases gk with
  | zero =>
    have hil:¬ (i:Int) < (l.length:Int):=(by omega);go_wp2;go_ret;refine ⟨?_,rfl⟩
    have hu:upTo l rev=l.length:=by
     unfold upTo;rw [List.findIdx_eq_length];intro x hx;obtain ⟨j,hj,rfl⟩:=List.getElem_of_mem hx;have:=HJ.out j (by omega);simpa [hj] using this
    unfold idxInt;rw [if_pos hu]
    rfl
  | succ g =>
    obtain ⟨gb,go,rfl⟩:=HA.out (by omega);have hx:l[i]? = some (l[i]'(by omega)):=List.getElem?_eq_getElem (by omega);have hcx:=HV.out.cell1 zej i hx rfl;have hil:(i:Int) < (l.length:Int):=(by omega);by_cases hp:rev < l[i]'(by omega)
    · have hpd:decide (rev < l[i]'(by omega))=true:=by simpa using hp
      have Hx:=H_ hx;have Hp:=H_ hp;clear hx hp;go_wp2;go_ret;refine ⟨?_,rfl⟩
      have hu:upTo l rev=i:=by
       unfold upTo;rw [List.findIdx_eq (by omega)];refine ⟨by simpa using Hp.out,fun j hj=>?_⟩;have:=HJ.out j hj;have hjl:j < l.length:=(by omega);simpa [hjl] using this
      unfold idxInt;rw [if_neg (by omega),hu]
      rfl
    have hpd:decide (rev < l[i]'(by omega))=false:=by simpa using hp
    have Hx:=H_ hx;have Hp:=H_ hp;clear hx hp;go_wp2;go_roundg g
    case rel =>
     refine ⟨i+1,by go_num,by omega,H_ fun j hj=>?_,rfl⟩;by_cases hji:j=i
     · subst hji
       rw [Hx.out];exact Hp.out
     exact HJ.out j (by omega)
    case measure=>omega
theorem zdy (l:List Int) (rev:Int):upTo l rev<=l.length:=List.findIdx_le_length
theorem zkd (w:World) (x:Gen) (pv:Value) (rev:Int) (hv:SlF w 3 1 int1 pv x.puts) (hl:x.puts.length<=1099511627776) :
 Calls Tryz.prog 147 #[.agg #[.int .i64 x.create,.int .i64 x.cut,pv,.int .i64 x.end_],.int .i64 rev] w fun e w'=>e = .returned (.int .i64 (upTo x.puts rev))/\Fr No w w':=by
 have hmf:∀ (fn:Fn) (first cap:Array Value) (w:World),(Instr.makeFunc fn first cap).run Tryz.prog w = .ok (.func fn first cap) w:=fun _ _ _ _=>rfl;obtain ⟨a,cap,rfl,hc1,hc2,ha⟩:=hv.shape;have hidx:=fun W hw ht=>zjx W (.slice a x.puts.length cap) x.puts rev (w.heap.size+1) hw hl ht;have hle:=zdy x.puts rev;have HV:=H_ hv;clear hv ha;by_cases hu:upTo x.puts rev=x.puts.length
 · have hi:idxInt x.puts rev = -1:=by unfold idxInt;rw [if_pos hu]
   rw [hi] at hidx;have HU:=H_ hu;clear hu hi;go_enter Tryz.func147,Tryz.ntmps147;go_wp2_with (go_at_call 168;refine (hidx _ (by exact (HV.out.alloc _).alloc _) (by simp [go_sem])).mono ?_;rintro e w2 ⟨rfl,rfl⟩);go_ret;exact ⟨by rw [HU.out];rfl,((Fr.refl _ w).alloc _).alloc _⟩
 have hi:idxInt x.puts rev=(upTo x.puts rev:Int):=by unfold idxInt;rw [if_neg hu]
 rw [hi] at hidx;generalize upTo x.puts rev=n at *;clear hi hu;go_enter Tryz.func147,Tryz.ntmps147;go_wp2_with (go_at_call 168;refine (hidx _ (by exact (HV.out.alloc _).alloc _) (by simp [go_sem])).mono ?_;rintro e w2 ⟨rfl,rfl⟩);go_ret;exact ⟨rfl,((Fr.refl _ w).alloc _).alloc _⟩
end Go.Proofs.YthljnnjpmdgkoaaGreat