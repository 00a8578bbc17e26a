/- Own lemmas and contracts that the claim's proof needs, laid together. The conditions stand in each. -/
import Derived.Test.YthljnnjpmdgkoaaGreatB00
import Derived.Test.YthljnnjpmdgkoaaGreatB04
import Derived.Test.YthljnnjpmdgkoaaGreatProg
import Derived.Outline
import Derived.StillTailTactics
namespace Go.Proofs.YthljnnjpmdgkoaaGreat
open Go Go.Proofs Go.RowKit
set_option maxRecDepth 100000
structure Gen where
 create:Int
 cut:Int
 puts:List Int
 end_:Int
def genC (p:Gen × Value):List Value:=[.int .i64 p.1.create,.int .i64 p.1.cut,p.2,.int .i64 p.1.end_]
theorem zal (p:Gen × Value):(genC p).length=4:=rfl
structure KeyRep (w:World) (g:Nat) (gv:Value) (Z:List (Gen × Value)) (last:Int):Prop where
 obj:Has w g [gv,.int .i64 last]
 gens:SlF w 223 4 genC gv Z
 puts:∀ (i:Nat) p,Z[i]? = some p->SlF w 3 1 int1 p.2 p.1.puts
 apart:∀ (i:Nat) p,Z[i]? = some p->∀ b,p.2.ownBlock=some b->b≠g/\gv.ownBlock≠some b
 apart2:∀ (i j:Nat) p q,Z[i]? = some p->Z[j]? = some q->∀ b,p.2.ownBlock=some b->q.2.ownBlock=some b->i=j
 own:gv.ownBlock≠some g
def keyF (g:Nat) (gv:Value) (Z:List (Gen × Value)) (b:Nat):Prop:=b=g\/gv.ownBlock=some b\/∃ (i:Nat) (p:Gen × Value),Z[i]? = some p/\p.2.ownBlock=some b
def isOpen (K:List Gen):Bool:=match K.getLast? with
 | some x=>x.end_ == 0
 | none=>false
theorem zsm (w:World) (g:Nat) (gv:Value) (Z:List (Gen × Value)) (last:Int) (h:KeyRep w g gv Z last) (ho:isOpen (Z.map (·.1))=false) (hl:Z.length<=1099511627776) :
 Calls Tryz.prog 178 #[.pointer (some ⟨g,0,none⟩)] w fun e w'=>e = .returned (.pointer none)/\w=w':=by
 obtain ⟨a,cap,rfl,hc1,hc2,ha⟩:=h.gens.shape;have hg0:=h.obj.cell 0 rfl;by_cases hz:Z.length=0
 · obtain rfl:=List.eq_nil_of_length_eq_zero hz
   go_enter Tryz.func178,Tryz.ntmps178;go_wp2;go_ret;exact ⟨rfl,rfl⟩
 obtain ⟨gb,go,rfl⟩:=ha (by omega)
 have hx:Z[Z.length - 1]? = some (Z[Z.length - 1]'(by omega)):=List.getElem?_eq_getElem (by omega);have he:=h.gens.cell zal (Z.length - 1) 3 hx rfl;have hz0:(0:Int) < (Z.length:Int):=(by omega)
 have hen:((Z[Z.length - 1]'(by omega)).1.end_ == 0)=false:=by
  unfold isOpen at ho;rw [List.getLast?_map,List.getLast?_eq_getElem?,hx] at ho;exact ho
 generalize (Z[Z.length - 1]'(by omega)).1.end_=en at he hen;clear h hx ha ho;generalize Z.length=n at *;go_enter Tryz.func178,Tryz.ntmps178;go_wp2;go_ret;exact ⟨rfl,rfl⟩
theorem zhw (w:World) (g gb go cap:Nat) (Z:List (Gen × Value)) (last:Int) (h:KeyRep w g (.slice (some ⟨gb,go,none⟩) Z.length cap) Z last) (ho:isOpen (Z.map (·.1))=true) (hl:Z.length<=1099511627776) :
 Calls Tryz.prog 178 #[.pointer (some ⟨g,0,none⟩)] w fun e w'=>e = .returned (.pointer (some ⟨gb,go+(Z.length - 1) * 4,none⟩))/\w=w':=by
 have hg0:=h.obj.cell 0 rfl
 have hz:Z.length≠0:=by
  intro hz;obtain rfl:=List.eq_nil_of_length_eq_zero hz;simp [isOpen] at ho
 have hx:Z[Z.length - 1]? = some (Z[Z.length - 1]'(by omega)):=List.getElem?_eq_getElem (by omega);have he:=h.gens.cell zal (Z.length - 1) 3 hx rfl;have hz0:(0:Int) < (Z.length:Int):=by omega
 have hen:((Z[Z.length - 1]'(by omega)).1.end_ == 0)=true:=by
  unfold isOpen at ho;rw [List.getLast?_map,List.getLast?_eq_getElem?,hx] at ho;exact ho
 obtain ⟨_,_,hv,hc1,hc2,_⟩:=h.gens.shape;cases hv
 generalize (Z[Z.length - 1]'(by omega)).1.end_=en at he hen;clear h hx ho;generalize Z.length=n at *;go_enter Tryz.func178,Tryz.ntmps178;go_wp2;go_ret;exact ⟨rfl,rfl⟩
theorem info3:(Tryz.prog.info? 3).map (fun i=>(i.zero,i.size,i.bytes))=some (some (.int .i64 0),1,8):=by kernel_rfl
theorem info190:(Tryz.prog.info? 223).map (fun i=>(i.zero,i.size,i.bytes))=some (some (.agg #[.int .i64 0,.int .i64 0,.slice none 0 0,.int .i64 0]),4,48):=by kernel_rfl
theorem zse {w w1:World} {g gb go cap pb po pc:Nat} {Z:List (Gen × Value)} {last rev:Int} {x:Gen} {pv:Value} {ob:Obj} (h:KeyRep w g (.slice (some ⟨gb,go,none⟩) Z.length cap) Z last) (hx:Z[Z.length - 1]? = some (x,pv))
 (hs1:SlF w1 3 1 int1 (.slice (some ⟨pb,po,none⟩) (x.puts.length+1) pc) (x.puts++[rev])) (hg1:(w.alloc ob).grownBy w1 pv.ownBlock) (hb1:pv.ownBlock=some pb\/pb=w.heap.size+1) :
 KeyRep (w1.setCell ⟨gb,go+(Z.length - 1) * 4+2,none⟩ (.slice (some ⟨pb,po,none⟩) (x.puts.length+1) pc)) g (.slice (some ⟨gb,go,none⟩) Z.length cap)
  (Z.set (Z.length - 1) ({ x with puts:=x.puts++[rev] },.slice (some ⟨pb,po,none⟩) (x.puts.length+1) pc)) last ∧
 Fr (keyF g (.slice (some ⟨gb,go,none⟩) Z.length cap) Z) w (w1.setCell ⟨gb,go+(Z.length - 1) * 4+2,none⟩ (.slice (some ⟨pb,po,none⟩) (x.puts.length+1) pc)) ∧
 (∀ b,(Value.slice (some ⟨pb,po,none⟩) (x.puts.length+1) pc).ownBlock=some b->pv.ownBlock=some b\/w.heap.size<=b):=by
 have hzl:Z.length - 1 < Z.length:=(List.getElem?_eq_some_iff.1 hx).1;have hap:=h.apart _ _ hx;have hgl:gb < w.heap.size:=h.gens.lt gb rfl;have hF0:Fr (fun k=>pv.ownBlock=some k) w w1:=(((Fr.refl _ w).alloc _).grown hg1 fun k hk=>.inl hk);have hgn:¬ pv.ownBlock=some gb:=fun e=>(hap gb e).2 rfl;have hgens1:SlF w1 223 4 genC (.slice (some ⟨gb,go,none⟩) Z.length cap) Z:=h.gens.fr hF0 fun k hk hs=>by cases hk;exact hgn hs
 have hne:gb≠pb:=by
  rintro rfl;rcases hb1 with e | e
  · exact hgn e
  omega
 have hown':∀ b,(Value.slice (some ⟨pb,po,none⟩) (x.puts.length+1) pc).ownBlock=some b->pv.ownBlock=some b\/w.heap.size<=b:=by
  intro b hb;obtain rfl:pb=b:=by simpa [Value.ownBlock] using hb
  rcases hb1 with e | e
  · exact .inl e
  right;omega
 have hF:Fr (keyF g (.slice (some ⟨gb,go,none⟩) Z.length cap) Z) w (w1.setCell ⟨gb,go+(Z.length - 1) * 4+2,none⟩ (.slice (some ⟨pb,po,none⟩) (x.puts.length+1) pc)):=by
  refine (hF0.mono ?_).setCell (.inl (.inr (.inl rfl))) _;intro k _ hk;exact .inr (.inr ⟨_,_,hx,hk⟩)
 have hown:∀ (i:Nat) q,Z[i]? = some q->∀ b,q.2.ownBlock=some b->b < w.heap.size:=fun i q hq=>(h.puts i q hq).lt;refine ⟨?_,hF,hown'⟩
 constructor
 · have:=h.obj.fr hF0 fun e=>(hap g e).1 rfl
   exact this.other _ _ (fun e=>h.own (by rw [e];rfl))
 · simpa using hgens1.set zal _ 2 (by omega) (x,pv) ({ x with puts:=x.puts++[rev] },.slice (some ⟨pb,po,none⟩) (x.puts.length+1) pc) _ hx rfl
 · intro i q hq
   rw [List.getElem?_set] at hq
   split at hq
   · simp at hq
     subst hq;have:=hs1.other ⟨gb,go+(Z.length - 1) * 4+2,none⟩ (.slice (some ⟨pb,po,none⟩) (x.puts.length+1) pc) (by simpa [Value.ownBlock] using Ne.symm hne);simpa [SlF] using this
   rename_i hne2
   have hq':=h.puts i q hq;have hnp:∀ b,q.2.ownBlock=some b->¬ pv.ownBlock=some b:=fun b hb hb'=>hne2 (h.apart2 _ _ _ _ hx hq b hb' hb);refine (hq'.fr hF0 hnp).other _ _ ?_;intro e;exact (h.apart i q hq gb e).2 rfl
 · intro i q hq b hb
   rw [List.getElem?_set] at hq
   split at hq
   · simp at hq
     subst hq;rcases hown' b hb with e | e
     · exact hap b e
     have:=h.obj.lt
     refine ⟨by omega,?_⟩;simp [Value.ownBlock];omega
   exact h.apart i q hq b hb
 · intro i j q r hq hr b hb hb'
   rw [List.getElem?_set] at hq hr
   split at hq <;> split at hr
   · omega
   · rename_i e1 e2
     simp at hq;subst hq;rcases hown' b hb with e | e
     · exact e1 ▸ h.apart2 _ _ _ _ hx hr b e hb'
     have:=hown _ _ hr b hb';omega
   · rename_i e1 e2
     simp at hr;subst hr;rcases hown' b hb' with e | e
     · exact e2 ▸ h.apart2 _ _ _ _ hq hx b hb e
     have:=hown _ _ hq b hb;omega
   exact h.apart2 i j q r hq hr b hb hb'
 exact h.own
theorem zuh (n:Nat) {w w1:World} {g gb go cap pb po pc:Nat} {Z:List (Gen × Value)} {last rev:Int} {x:Gen} {pv:Value} {ob:Obj} (h:KeyRep w g (.slice (some ⟨gb,go,none⟩) n cap) Z last) (hn:Z.length=n) (hx:Z[n - 1]? = some (x,pv))
 (hs1:SlF w1 3 1 int1 (.slice (some ⟨pb,po,none⟩) (x.puts.length+1) pc) (x.puts++[rev])) (hg1:(w.alloc ob).grownBy w1 pv.ownBlock) (hb1:pv.ownBlock=some pb\/pb=w.heap.size+1) :
 KeyRep (w1.setCell ⟨gb,go+(n - 1) * 4+2,none⟩ (.slice (some ⟨pb,po,none⟩) (x.puts.length+1) pc)) g (.slice (some ⟨gb,go,none⟩) n cap)
  (Z.set (n - 1) ({ x with puts:=x.puts++[rev] },.slice (some ⟨pb,po,none⟩) (x.puts.length+1) pc)) last ∧
 Fr (keyF g (.slice (some ⟨gb,go,none⟩) n cap) Z) w (w1.setCell ⟨gb,go+(n - 1) * 4+2,none⟩ (.slice (some ⟨pb,po,none⟩) (x.puts.length+1) pc)) ∧
 (∀ b,(Value.slice (some ⟨pb,po,none⟩) (x.puts.length+1) pc).ownBlock=some b->pv.ownBlock=some b\/w.heap.size<=b):=by
 subst hn;exact zse h hx hs1 hg1 hb1
theorem zug (w:World) (g:Nat) (gv:Value) (Z:List (Gen × Value)) (last rev:Int) (x:Gen) (pv:Value) (h:KeyRep w g gv Z last) (hx:Z[Z.length - 1]? = some (x,pv))
 (ho:isOpen (Z.map (·.1))=true) (hl:Z.length<=1099511627776) (hp:x.puts.length<=1099511627776) :
 Calls Tryz.prog 160 #[.pointer (some ⟨g,0,none⟩),.int .i64 rev] w fun e w'=>e = .returned (.int .i64 0) ∧
  ∃ v',KeyRep w' g gv (Z.set (Z.length - 1) ({ x with puts:=x.puts++[rev] },v')) last/\Fr (keyF g gv Z) w w'/\(∀ b,v'.ownBlock=some b->pv.ownBlock=some b\/w.heap.size<=b):=by
 obtain ⟨a,cap,rfl,hc1,hc2,ha⟩:=h.gens.shape;have hzl:Z.length - 1 < Z.length:=(List.getElem?_eq_some_iff.1 hx).1;obtain ⟨gb,go,rfl⟩:=ha (by omega);have hg0:=h.obj.cell 0 rfl;have hcp:=h.gens.cell zal (Z.length - 1) 2 hx rfl;have hpv:=h.puts _ _ hx;have hap:=h.apart _ _ hx;have hopen:=zhw w g gb go cap Z last h ho hl;obtain ⟨i0,hi,hz0,hz1,hz2⟩:=info_parts info3;have hnew:=zay w [Value.int .i64 rev] 3 (0,0);have H:=H_ h;clear h;have HX:=H_ hx;clear hx;go_enter Tryz.func160,Tryz.ntmps160
 go_wp2_with (first
  | (go_at_call 178;refine hopen.mono ?_;clear hopen;rintro e w' ⟨rfl,rfl⟩)
  | (at_builtin;refine zas rfl _ _ 76 rfl 3 i0 (.int .i64 0) 1 8 Tryz.underlying76 hi hz0 hz1 hz2 rfl (by decide) pv x.puts rfl (hpv.alloc _) w.heap.size 1 rev rfl hnew rfl ?c1 ?c2 ?c3 ?_))
 case c1=>intro u hu;simp [int1] at hu;subst hu;rfl
 case c2=>unfold maxLen;omega
 case c3=>omega
 intro pb po pc w1 hs1 hg1 hb1 hlt1;have hF0:Fr (fun k=>pv.ownBlock=some k) w w1:=(((Fr.refl _ w).alloc _).grown hg1 fun k hk=>.inl hk);have hgens1:SlF w1 223 4 genC (.slice (some ⟨gb,go,none⟩) Z.length cap) Z:=H.out.gens.fr hF0 fun k hk hs=>by cases hk;exact (hap gb hs).2 rfl
 have hcp1:=hgens1.cell zal (Z.length - 1) 2 HX.out rfl;have hfr1:=hgens1.free (go+(Z.length - 1) * 4+2);have H1:=H_ (zse H.out HX.out hs1 hg1 (by simpa using hb1));clear hs1 hgens1 hg0 hcp hnew hg1 hb1 hF0;go_wp2;go_ret;exact ⟨rfl,_,H1.out⟩
theorem zqh (n:Nat) (w:World) (g gb go cap:Nat) (Z:List (Gen × Value)) (last:Int) (h:KeyRep w g (.slice (some ⟨gb,go,none⟩) n cap) Z last) (hn:Z.length=n) (ho:isOpen (Z.map (·.1))=true) (hl:n<=1099511627776) :
 Calls Tryz.prog 178 #[.pointer (some ⟨g,0,none⟩)] w fun e w'=>e = .returned (.pointer (some ⟨gb,go+(n - 1) * 4,none⟩))/\w=w':=by
 subst hn;exact zhw w g gb go cap Z last h ho hl
def zbz (rev:Int):Gen:={ create:=rev,cut:=0,puts:=[],end_:=0 }
theorem zuv {w w1:World} {g gb go cap:Nat} {gv:Value} {Z:List (Gen × Value)} {last rev:Int} {ob:Obj} (h:KeyRep w g gv Z last)
 (hs1:SlF w1 223 4 genC (.slice (some ⟨gb,go,none⟩) (Z.length+1) cap) (Z++[(zbz rev,.slice none 0 0)])) (hg1:(w.alloc ob).grownBy w1 gv.ownBlock) (hb1:gv.ownBlock=some gb\/gb=w.heap.size+1) :
 KeyRep (w1.setCell ⟨g,0,none⟩ (.slice (some ⟨gb,go,none⟩) (Z.length+1) cap)) g (.slice (some ⟨gb,go,none⟩) (Z.length+1) cap) (Z++[(zbz rev,.slice none 0 0)]) last ∧
 Fr (keyF g gv Z) w (w1.setCell ⟨g,0,none⟩ (.slice (some ⟨gb,go,none⟩) (Z.length+1) cap)):=by
 have hF0:Fr (fun k=>gv.ownBlock=some k) w w1:=(((Fr.refl _ w).alloc _).grown hg1 fun k hk=>.inl hk)
 have hne:gb≠g:=by
  rintro rfl;rcases hb1 with e | e
  · exact h.own e
  have:=h.obj.lt;omega
 have hget:∀ (i:Nat) q,(Z++[(zbz rev,Value.slice none 0 0)])[i]? = some q->Z[i]? = some q\/q=(zbz rev,.slice none 0 0):=by
  intro i q hq;rw [List.getElem?_append] at hq
  split at hq
  · exact .inl hq
  right
  rw [List.getElem?_singleton] at hq
  split at hq
  · simpa using hq.symm
  cases hq
 refine ⟨?_,?_⟩
 · constructor
   · have:=(h.obj.fr hF0 h.own).set 0 (.slice (some ⟨gb,go,none⟩) (Z.length+1) cap)
     exact this
   · exact hs1.other _ _ (by simpa [Value.ownBlock] using hne)
   · intro i q hq
     rcases hget i q hq with h1 | rfl
     · exact ((h.puts i q h1).fr hF0 fun b hb hb'=>(h.apart i q h1 b hb).2 hb').other _ _ fun e=>(h.apart i q h1 g e).1 rfl
     exact SlF.nil _ _ _ _
   · intro i q hq b hb
     rcases hget i q hq with h1 | rfl
     · refine ⟨(h.apart i q h1 b hb).1,?_⟩
       have hbl:=(h.puts i q h1).lt b hb;have hb2:=(h.apart i q h1 b hb).2;simp only [Value.ownBlock,ne_eq,Option.some.injEq];rintro rfl;rcases hb1 with e | e
       · exact hb2 e
       omega
     simp [Value.ownBlock] at hb
   · intro i j q r hq hr b hb hb'
     rcases hget i q hq with h1 | rfl
     · rcases hget j r hr with h2 | rfl
       · exact h.apart2 i j q r h1 h2 b hb hb'
       simp [Value.ownBlock] at hb'
     simp [Value.ownBlock] at hb
   simpa [Value.ownBlock] using hne
 exact (hF0.mono fun k _ hk=>.inr (.inl hk)).setCell (.inl (.inl rfl)) _
theorem znq (K:List Gen) (rev:Int):isOpen (K++[zbz rev])=true:=by simp [isOpen,zbz]
theorem zvu (w:World) (g:Nat) (gv:Value) (Z:List (Gen × Value)) (last rev:Int) (h:KeyRep w g gv Z last)
 (ho:isOpen (Z.map (·.1))=false) (hl:Z.length<=1099511627) :
 Calls Tryz.prog 160 #[.pointer (some ⟨g,0,none⟩),.int .i64 rev] w fun e w'=>e = .returned (.int .i64 0) ∧
  ∃ gv' v',KeyRep w' g gv' (Z++[({ zbz rev with puts:=[rev] },v')]) last/\Fr (keyF g gv Z) w w'/\(∀ b,v'.ownBlock=some b->w.heap.size<=b)/\(∀ b,gv'.ownBlock=some b->gv.ownBlock=some b\/w.heap.size<=b):=by
 have hg0:=h.obj.cell 0 rfl;have hg1:=h.obj.free 0;have hgl:=h.obj.lt;have hopen:=zsm w g gv Z last h ho (by omega);have hgs:=h.gens;obtain ⟨i0,hi,hz0,hz1,hz2⟩:=info_parts info3;obtain ⟨j0,hj,hy0,hy1,hy2⟩:=info_parts info190;have hnew:=zay w (genC (zbz rev,.slice none 0 0)) 223 (0,0);have H:=H_ h;clear h;go_enter Tryz.func160,Tryz.ntmps160
 go_wp2_with (first
  | (go_at_call 178;refine hopen.mono ?_;clear hopen;rintro e w' ⟨rfl,rfl⟩)
  | (at_builtin;refine zas rfl _ _ 220 rfl 223 j0 _ 4 48 Tryz.underlying220 hj hy0 hy1 hy2 rfl (by decide) gv Z rfl (hgs.alloc _) w.heap.size 1 (zbz rev,.slice none 0 0) rfl hnew rfl ?c1 ?c2 ?c3 ?_))
 case c1=>intro u hu;simp [genC] at hu;rcases hu with rfl | rfl | rfl | rfl <;> rfl
 case c2=>unfold maxLen;omega
 case c3=>omega
 intro gb go cap w1 hs1 hgr1 hb1 hlt1;have hF0:Fr (fun k=>gv.ownBlock=some k) w w1:=(((Fr.refl _ w).alloc _).grown hgr1 fun k hk=>.inl hk);have hobj1:=H.out.obj.fr hF0 H.out.own;have hg01:=hobj1.cell 0 rfl;have hf01:=hobj1.free 0;have K1:=zuv H.out hs1 hgr1 (by simpa using hb1);have hZl:(Z++[(zbz rev,Value.slice none 0 0)]).length=Z.length+1:=by simp
 have hl1:w.heap.size+1<=w1.heap.size:=by have:=hgr1.size;simpa using this
 have hopen2:=zqh (Z.length+1) _ g gb go cap _ last K1.1 hZl (by rw [List.map_append];exact znq _ rev) (by omega);have hxl:(Z++[(zbz rev,Value.slice none 0 0)])[Z.length]? = some (zbz rev,.slice none 0 0):=by simp
 have hcp2:=SlF.cell (L:=Z++[(zbz rev,Value.slice none 0 0)]) (g:=gb) (o:=go) (cap:=cap) zal (by rw [hZl];exact K1.1.gens) Z.length 2 hxl rfl;have hfr2:=SlF.free (L:=Z++[(zbz rev,Value.slice none 0 0)]) (g:=gb) (o:=go) (cap:=cap) (by rw [hZl];exact K1.1.gens) (go+Z.length * 4+2);rw [World.frozen?_setCell] at hfr2;have hk1:Z.length+1 - 1=Z.length:=by omega
 rw [hk1] at hopen2;obtain ⟨w2,hw2⟩:∃ w2,w2=w1.setCell ⟨g,0,none⟩ (.slice (some ⟨gb,go,none⟩) (Z.length+1) cap):=⟨_,rfl⟩;rw [<-hw2] at hopen2 hcp2 K1;have HK1:=H_ K1;have HZ:=H_ hZl;clear hs1 hgr1 hg0 hg1 hnew hgs hj hobj1 hgl hxl K1 hZl hk1 hF0 hy0 hy1 hy2;go_wp2_with fail;rw [<-hw2];refine hopen2.mono ?_;clear hopen2;rintro e w' ⟨rfl,rfl⟩;have HS2:Hid (w2.heap.size=w1.heap.size):=H_ (by rw [hw2];simp);have hfr3:w2.frozen? ⟨gb,go+Z.length * 4+2,none⟩=false:=by rw [hw2];simpa using hfr2
 have hnew:=zay w2 [Value.int .i64 rev] 3 (0,0);have HW:=H_ hw2;clear hw2 hfr2;clear hg01 hf01;go_wp2_with (at_builtin;refine zas (f:=int1) rfl _ _ 76 rfl 3 i0 (.int .i64 0) 1 8 Tryz.underlying76 hi hz0 hz1 hz2 rfl (by decide) (.slice none 0 0) ([]:List Int) rfl (SlF.nil _ _ _ _) w2.heap.size 1 rev rfl hnew rfl ?c1 ?c2 ?c3 ?_)
 case c1=>intro u hu;simp [int1] at hu;subst hu;rfl
 case c2=>decide
 case c3=>decide
 intro pb po pc w3 hs3 hg3 hb3 hlt3;have hFr3:Fr No w2 w3:=(((Fr.refl _ w2).alloc _).grown hg3 fun k hk=>by simp [Value.ownBlock] at hk);have hcp3:=hFr3.cell0 hcp2;have hgb2:gb < w2.heap.size:=HK1.out.1.gens.lt gb rfl
 have hfr4:w3.frozen? ⟨gb,go+Z.length * 4+2,none⟩=false:=by
  rw [World.frozen?_of_block (hFr3.block gb hgb2 fun s=>s)];exact hfr3
 have P3:=H_ (zuh (x:=zbz rev) (pv:=.slice none 0 0) (Z.length+1) HK1.out.1 HZ.out (by simp) hs3 hg3 (by simpa [Value.ownBlock] using hb3));clear hs3 hg3 hb3 hFr3 hcp2 hfr3 hnew;go_wp2;go_ret;have P:=P3.out;simp only [Nat.add_sub_cancel] at P;refine ⟨rfl,.slice (some ⟨gb,go,none⟩) (Z.length+1) cap,.slice (some ⟨pb,po,none⟩) 1 pc,?_,HK1.out.2.trans P.2.1 ?_,?_,?_⟩
 · have:=P.1
   rw [List.set_append_right _ _ (by omega)] at this;simp only [Nat.sub_self,List.set_cons_zero] at this;exact this
 · intro k hk hk2
   rcases hk2 with rfl | e | ⟨i,q,hq,e⟩
   · exact .inl rfl
   · obtain rfl:gb=k:=by simpa [Value.ownBlock] using e
     rcases hb1 with e | e
     · exact .inr (.inl e)
     omega
   rw [List.getElem?_append] at hq
   split at hq
   · exact .inr (.inr ⟨i,q,hq,e⟩)
   rw [List.getElem?_singleton] at hq
   split at hq
   · simp at hq;subst hq;simp [Value.ownBlock] at e
   cases hq
 · intro b hb
   rcases P.2.2 b hb with e | e
   · simp [Value.ownBlock] at e
   rw [HS2.out] at e;omega
 intro b hb
 obtain rfl:gb=b:=by simpa [Value.ownBlock] using hb
 rcases hb1 with e | e
 · exact .inl e
 right;omega
theorem Sl.inner {w:World} {e:TypeId} {sz:Nat} {g o n cap:Nat} {xs:List Value} (h:Sl w e sz (.slice (some ⟨g,o,none⟩) n cap) n xs):∃ cur,w.heap[g]? = some (.cells cur e (0,0))/\n<=cap/\cap<=maxLen/\o+cap * sz<=cur.size/\(cur.toList.drop o).take (n * sz)=xs:=by
 rcases h.2 with ⟨h0,_⟩ | ⟨g',o',cap',cur,hv,hg,h1,h2,h3,h4⟩
 · cases h0
 cases hv
 exact ⟨cur,hg,h1,h2,h3,h4⟩
theorem SlF.inner {α:Type} {f:α->List Value} {w:World} {e sz g o cap:Nat} {L:List α} (h:SlF w e sz f (.slice (some ⟨g,o,none⟩) L.length cap) L):∃ cur,w.heap[g]? = some (.cells cur e (0,0))/\L.length<=cap/\cap<=maxLen/\o+cap * sz<=cur.size/\(cur.toList.drop o).take (L.length * sz)=L.flatMap f:=Sl.inner h
theorem SlF.cells {α:Type} {f:α->List Value} {w:World} {e sz g o cap:Nat} {L:List α} (_hf:∀ x,(f x).length=sz) (h:SlF w e sz f (.slice (some ⟨g,o,none⟩) L.length cap) L) (j:Nat) (u:Value) (hu:(L.flatMap f)[j]? = some u):w.cell? ((⟨g,o,none⟩:Addr).add j)=some u:=by
 have hadd:(⟨g,o,none⟩:Addr).add j=⟨g,o+j,none⟩:=by unfold Addr.add;split <;> simp_all
 rw [hadd];exact Sl.cell h j hu
theorem SlF.drop {α:Type} {f:α->List Value} {w:World} {e sz g o cap:Nat} {L:List α} (hf:∀ x,(f x).length=sz) (h:SlF w e sz f (.slice (some ⟨g,o,none⟩) L.length cap) L) (k:Nat) (hk:k<=L.length) :
 SlF w e sz f (.slice (some ⟨g,o+k * sz,none⟩) (L.length - k) (cap - k)) (L.drop k):=by
 obtain ⟨cur,hc,h1,h2,h3,h4⟩:=h.inner;have hm:k * sz+(cap - k) * sz=cap * sz:=by rw [<-Nat.add_mul];congr 1;omega
 refine ⟨zao hf _,.inr ⟨g,o+k * sz,cap - k,cur,by rw [List.length_drop],hc,by rw [List.length_drop];omega,by omega,by omega,?_⟩⟩
 have h5:(L.drop k).flatMap f=(L.flatMap f).drop (k * sz):=by
  have h6:=congrArg (fun l=>List.flatMap f l) (List.take_append_drop k L);simp only [List.flatMap_append] at h6;have h7:((L.take k).flatMap f).length=k * sz:=(by rw [zao hf];congr 1;simp;omega)
  conv=>rhs;rw [<-h6]
  rw [<-h7,List.drop_left]
 rw [h5,<-h4,List.drop_take,List.drop_drop,List.length_drop,Nat.sub_mul]
theorem zlv:∀ (L:List (ByteArray × Int)),∀ u∈L.flatMap pairC,u.oneCell'=true:=by
 intro L u hu;obtain ⟨y,_,hy⟩:=List.mem_flatMap.1 hu;simp [pairC] at hy;rcases hy with rfl | rfl <;> rfl
theorem zkd:∀ (L:List Nat),∀ u∈L.flatMap nat1,u.oneCell'=true:=by
 intro L u hu;obtain ⟨y,_,hy⟩:=List.mem_flatMap.1 hu;simp [nat1] at hy;subst hy;rfl
def zfs (L:List (ByteArray × Int)):Prop:=(L.flatMap pairC).length=L.length * 2
def zgu (L:List Nat):Prop:=(L.flatMap nat1).length=L.length * 1
set_option maxHeartbeats 1000000 in
theorem zkb (w:World) (v:Value) (L:List (ByteArray × Int)) (hv:SlF w 122 2 pairC v L) (hl:L.length<=1000) :
 Calls Tryz.prog 175 #[v] w fun e w'=>∃ g,e = .returned (.slice (some ⟨g,0,none⟩) L.length L.length)/\SlF w' 122 2 pairC (.slice (some ⟨g,0,none⟩) L.length L.length) L/\Fr No w w'/\w.heap.size<=g:=by
 obtain ⟨i0,hi0,hz0,hz1,hz2⟩:=info_parts info127;have hl0:zfs L:=zao zae L;obtain ⟨a,cap,rfl,hc1,hc2,ha⟩:=hv.shape
 have hmk:∀ W,(Instr.makeSlice 119 (.int .i64 (L.length:Int)) (.int .i64 (L.length:Int))).run Tryz.prog W = .ok (.slice (some ⟨W.heap.size,0,none⟩) L.length L.length) (W.alloc (.cells (madeCells (Value.cells (.agg #[.string ByteArray.empty,.int .i64 0])) (L.length * 2)) 122)):=by
  intro W;have:=run_make (P:=Tryz.prog) W 119 122 i0 _ Tryz.underlying119 hi0 hz0 .i64 .i64 L.length L.length (by omega) (by omega) (by rw [hz2];omega) (by omega);rw [hz1] at this;simpa using this
 have HV:=H_ hv;have HA:=H_ ha;have HL:=H_ hl0;clear hv ha hl0;have hn:(L.flatMap pairC).length=Nat.min L.length L.length * i0.size:=by rw [hz1,zao zae,show Nat.min L.length L.length=L.length from Nat.min_self _]
 have hpos:0 < (L.flatMap pairC).length->(some (⟨w.heap.size,0,none⟩:Addr)=some ⟨w.heap.size,0,none⟩/\∃ ad,a=some ad/\∀ j u,(L.flatMap pairC)[j]? = some u->(w.alloc (.cells (madeCells (Value.cells (.agg #[.string ByteArray.empty,.int .i64 0])) (L.length * 2)) 122)).cell? (ad.add j)=some u):=by
  intro hp;rw [zao zae] at hp;obtain ⟨g0,o0,rfl⟩:=HA.out (by omega);exact ⟨rfl,_,rfl,fun j u hu=>SlF.cells zae (HV.out.alloc _) j u hu⟩
 have hfit:0+(L.flatMap pairC).length<=(madeCells (Value.cells (.agg #[.string ByteArray.empty,.int .i64 0])) (L.length * 2)).size:=by rw [zao zae,size_madeCells];omega
 have HN:=H_ hn;have HP:=H_ hpos;have HFT:=H_ hfit;clear hn hpos hfit;go_enter Tryz.func175,Tryz.ntmps175;go_wp2_with (refine zbp rfl _ _ 119 119 122 i0 rfl Tryz.underlying119 hi0 _ _ L.length L.length L.length cap w.heap.size 0 (madeCells (Value.cells (.agg #[.string ByteArray.empty,.int .i64 0])) (L.length * 2)) 122 (L.flatMap pairC) rfl rfl (zad _ _ _ rfl) HN.out HP.out HFT.out (zlv L) ?_);intro w2 hw2 hg2;have hf:Fr No w (w.alloc (Obj.cells (madeCells (Value.cells (.agg #[.string ByteArray.empty,.int .i64 0])) (L.length * 2)) 122)):=(Fr.refl No w).alloc _;have hmin:Nat.min L.length L.length=L.length:=Nat.min_self _;go_wp2;go_ret;refine ⟨w.heap.size,rfl,⟨zao zae L,.inr ⟨w.heap.size,0,L.length,_,rfl,hw2,Nat.le_refl _,by unfold maxLen;omega,?_,?_⟩⟩,?_,Nat.le_refl _⟩
 · have:=HL.out;unfold zfs at this
   simp [this]
 · have:=HL.out;unfold zfs at this
   have hm:(madeCells (Value.cells (.agg #[.string ByteArray.empty,.int .i64 0])) (L.length * 2)).toList.length=L.length * 2:=(by rw [Array.length_toList,size_madeCells] <;> omega);simp only [List.drop_zero];rw [List.take_left' this]
 refine ⟨hg2.os.trans hf.os,hg2.tape.trans hf.tape,hg2.output.trans hf.output,Nat.le_trans hf.size hg2.size,fun k hk _=>(hg2.block k (Nat.lt_of_lt_of_le hk hf.size) fun e=>?_).trans (hf.block k hk id)⟩
 cases e
 omega
set_option maxHeartbeats 1000000 in
theorem zlr (w:World) (v:Value) (L:List (Nat)) (hv:SlF w 3 1 nat1 v L) (hl:L.length<=1000) :
 Calls Tryz.prog 176 #[v] w fun e w'=>∃ g,e = .returned (.slice (some ⟨g,0,none⟩) L.length L.length)/\SlF w' 3 1 nat1 (.slice (some ⟨g,0,none⟩) L.length L.length) L/\Fr No w w'/\w.heap.size<=g:=by
 obtain ⟨i0,hi0,hz0,hz1,hz2⟩:=info_parts info3;have hl0:zgu L:=zao zag L;obtain ⟨a,cap,rfl,hc1,hc2,ha⟩:=hv.shape
 have hmk:∀ W,(Instr.makeSlice 76 (.int .i64 (L.length:Int)) (.int .i64 (L.length:Int))).run Tryz.prog W = .ok (.slice (some ⟨W.heap.size,0,none⟩) L.length L.length) (W.alloc (.cells (madeCells (Value.cells (.int .i64 0)) (L.length)) 3)):=by
  intro W;have:=run_make (P:=Tryz.prog) W 76 3 i0 _ Tryz.underlying76 hi0 hz0 .i64 .i64 L.length L.length (by omega) (by omega) (by rw [hz2];omega) (by omega);rw [hz1] at this;simpa using this
 have HV:=H_ hv;have HA:=H_ ha;have HL:=H_ hl0;clear hv ha hl0;have hn:(L.flatMap nat1).length=Nat.min L.length L.length * i0.size:=by rw [hz1,zao zag,show Nat.min L.length L.length=L.length from Nat.min_self _]
 have hpos:0 < (L.flatMap nat1).length->(some (⟨w.heap.size,0,none⟩:Addr)=some ⟨w.heap.size,0,none⟩/\∃ ad,a=some ad/\∀ j u,(L.flatMap nat1)[j]? = some u->(w.alloc (.cells (madeCells (Value.cells (.int .i64 0)) (L.length)) 3)).cell? (ad.add j)=some u):=by
  intro hp;rw [zao zag] at hp;obtain ⟨g0,o0,rfl⟩:=HA.out (by omega);exact ⟨rfl,_,rfl,fun j u hu=>SlF.cells zag (HV.out.alloc _) j u hu⟩
 have hfit:0+(L.flatMap nat1).length<=(madeCells (Value.cells (.int .i64 0)) (L.length)).size:=by rw [zao zag,size_madeCells];omega
 have HN:=H_ hn;have HP:=H_ hpos;have HFT:=H_ hfit;clear hn hpos hfit;go_enter Tryz.func176,Tryz.ntmps176;go_wp2_with (refine zbp rfl _ _ 76 76 3 i0 rfl Tryz.underlying76 hi0 _ _ L.length L.length L.length cap w.heap.size 0 (madeCells (Value.cells (.int .i64 0)) (L.length)) 3 (L.flatMap nat1) rfl rfl (zad _ _ _ rfl) HN.out HP.out HFT.out (zkd L) ?_);intro w2 hw2 hg2;have hf:Fr No w (w.alloc (Obj.cells (madeCells (Value.cells (.int .i64 0)) (L.length)) 3)):=(Fr.refl No w).alloc _;have hmin:Nat.min L.length L.length=L.length:=Nat.min_self _;go_wp2;go_ret;refine ⟨w.heap.size,rfl,⟨zao zag L,.inr ⟨w.heap.size,0,L.length,_,rfl,hw2,Nat.le_refl _,by unfold maxLen;omega,?_,?_⟩⟩,?_,Nat.le_refl _⟩
 · have:=HL.out;unfold zgu at this
   simp [this]
 · have:=HL.out;unfold zgu at this
   have hm:(madeCells (Value.cells (.int .i64 0)) (L.length)).toList.length=L.length * 1:=(by rw [Array.length_toList,size_madeCells] <;> omega);simp only [List.drop_zero];rw [List.take_left' this]
 refine ⟨hg2.os.trans hf.os,hg2.tape.trans hf.tape,hg2.output.trans hf.output,Nat.le_trans hf.size hg2.size,fun k hk _=>(hg2.block k (Nat.lt_of_lt_of_le hk hf.size) fun e=>?_).trans (hf.block k hk id)⟩
 cases e
 omega
theorem cut_eq {α:Type} (L:List α) (i:Nat) (hi:i < L.length):(L.take i++(L.drop (i+1)).take (L.length - (i+1))++L.drop (i+(L.length - (i+1)))).take (L.length - 1)=L.take i++L.drop (i+1):=by
 rw [List.take_of_length_le (l:=L.drop (i+1)) (by simp),List.take_append_of_le_length (by simp;omega),List.take_of_length_le (by simp;omega)]
set_option maxHeartbeats 1000000 in
theorem zee (w:World) (v:Value) (L:List (ByteArray × Int)) (i:Nat) (hv:SlF w 122 2 pairC v L) (hi:i < L.length) (hl:L.length<=1000) :
 Calls Tryz.prog 170 #[v,.int .i64 i] w fun e w'=>∃ g o cap,e = .returned (.slice (some ⟨g,o,none⟩) (L.length - 1) cap)/\SlF w' 122 2 pairC (.slice (some ⟨g,o,none⟩) (L.length - 1) cap) (L.take i++L.drop (i+1)) ∧
  Fr (fun b=>v.ownBlock=some b) w w'/\v.ownBlock=some g:=by
 obtain ⟨i0,hi0,hz0,hz1,hz2⟩:=info_parts info127;obtain ⟨a,cap,rfl,hc1,hc2,ha⟩:=hv.shape;obtain ⟨g,o,rfl⟩:=ha (by omega);obtain ⟨cur,hcur,_,_,hfit0,_⟩:=hv.inner
 have hcs:(((L.drop (i+1)).take (L.length - (i+1))).flatMap pairC).length=(L.length - (i+1)) * 2:=by
  rw [zao zae];congr 1;simp
 have hn:(((L.drop (i+1)).take (L.length - (i+1))).flatMap pairC).length=Nat.min (L.length - (i+1)) (L.length - i) * i0.size:=by
  rw [hcs,hz1,show Nat.min (L.length - (i+1)) (L.length - i)=L.length - (i+1) from Nat.min_eq_left (by omega)]
 have hmul:(i+1) * 2+(L.length - (i+1)) * 2=L.length * 2:=by rw [<-Nat.add_mul];congr 1;omega
 have hmul2:i * 2+1 * 2=(i+1) * 2:=by rw [<-Nat.add_mul]
 have hmc:L.length * 2<=cap * 2:=Nat.mul_le_mul_right _ hc1;have hfit:o+i * 2+(((L.drop (i+1)).take (L.length - (i+1))).flatMap pairC).length<=cur.size:=by rw [hcs];omega
 have hpos:0 < (((L.drop (i+1)).take (L.length - (i+1))).flatMap pairC).length->((if cap=i then some (⟨g,o,none⟩:Addr) else some ⟨g,o+i * 2,none⟩)=some ⟨g,o+i * 2,none⟩/\∃ ad,(if cap=i+1 then some (⟨g,o,none⟩:Addr) else some ⟨g,o+(i+1) * 2,none⟩)=some ad ∧
  ∀ j u,(((L.drop (i+1)).take (L.length - (i+1))).flatMap pairC)[j]? = some u->w.drew.cell? (ad.add j)=some u):=by
  intro hp;rw [hcs] at hp
  have hil:i+1 < L.length:=by
   rcases Nat.lt_or_ge (i+1) L.length with h | h
   · exact h
   rw [show L.length - (i+1)=0 by omega] at hp;simp at hp
  rw [if_neg (by omega),if_neg (by omega)];refine ⟨by simp,_,rfl,fun j u hu=>?_⟩;rw [List.take_of_length_le (by simp)] at hu;have h1:=(hv.drop zae (i+1) (by omega)).drew;have h2:SlF w.drew 122 2 pairC (.slice (some ⟨g,o+(i+1) * 2,none⟩) (L.drop (i+1)).length (cap - (i+1))) (L.drop (i+1)):=(by rw [List.length_drop];exact h1);have h3:=SlF.cells zae h2 j u hu;simpa using h3
 have hcw:w.drew.heap[g]? = some (.cells cur 122 (0,0)):=hcur;have HN:=H_ hn;have HP:=H_ hpos;have HFT:=H_ hfit;have HV:=H_ hv;have HCS:=H_ hcs;have HCW:=H_ hcw;clear hn hpos hfit hv hcs hcw ha hmul hmul2 hmc hcur hfit0;have hi1:(i:Int)+1<=(L.length:Int):=by omega
 have hi2:(i:Int)<=(L.length:Int):=by omega
 have hi3:i+1<=L.length:=by omega
 have hi4:i<=L.length:=by omega
 have hi5:(0:Int)<=(i:Int)+1:=by omega
 have hi6:(0:Int)<=(i:Int):=by omega
 go_enter Tryz.func170,Tryz.ntmps170;go_wp2_with fail;refine wp_region_still_tail 7 (by kernel_rfl) (by kernel_rfl) ?_;simp only [List.take_succ_cons,List.take_zero,List.drop_succ_cons,List.drop_zero];change wpStill _ _ w.drew _ _ _
 repeat (refine wpStill_step (fun K hK=>?_);go_simp;(try go_bits);refine hK _ ?_;clear hK K)
 refine wpStill_nil ?_;change wpList _ _ _ _ _ w.drew;refine zbp rfl _ _ 119 119 122 i0 rfl Tryz.underlying119 hi0 _ _ _ _ _ _ g (o+i * 2) cur 122 (((L.drop (i+1)).take (L.length - (i+1))).flatMap pairC) rfl rfl HCW.out HN.out HP.out HFT.out (zlv _) ?_;intro w2 hw2 hg2;generalize (if cap=i then some (⟨g,o,none⟩:Addr) else some ⟨g,o+i * 2,none⟩)=A1;generalize (if cap=i+1 then some (⟨g,o,none⟩:Addr) else some ⟨g,o+(i+1) * 2,none⟩)=A2;have hs2:=SlF.copied (w:=w.drew) (w':=w2) (L:=L) zae HV.out.drew (i+1) i (L.length - (i+1)) (by omega) (by omega) cur HCW.out (by rw [HCS.out] at hw2;exact hw2);have HS2:=H_ hs2;have HG2:=H_ hg2;clear hs2 hw2 hg2;have hj1:(0:Int)<=(L.length:Int) - 1:=by omega
 have hj2:(L.length:Int) - 1<=(cap:Int):=by omega
 have hj3:((L.length:Int) - 1).toNat=L.length - 1:=by omega
 go_wp2;go_ret;refine ⟨g,o,cap,rfl,?_,((Fr.refl _ w).drew).grown HG2.out fun k hk=>.inl (by cases hk;rfl),rfl⟩;have h4:=HS2.out;have hl2:(L.take i++(L.drop (i+1)).take (L.length - (i+1))++L.drop (i+(L.length - (i+1)))).length=L.length:=by simp;omega
 have h5:=SlF.take zae (by rw [hl2];exact h4) (L.length - 1) (by rw [hl2];omega);rw [cut_eq L i hi] at h5;exact h5
set_option maxHeartbeats 1000000 in
theorem zhb (w:World) (v:Value) (L:List (Nat)) (i:Nat) (hv:SlF w 3 1 nat1 v L) (hi:i < L.length) (hl:L.length<=1000) :
 Calls Tryz.prog 182 #[v,.int .i64 i] w fun e w'=>∃ g o cap,e = .returned (.slice (some ⟨g,o,none⟩) (L.length - 1) cap)/\SlF w' 3 1 nat1 (.slice (some ⟨g,o,none⟩) (L.length - 1) cap) (L.take i++L.drop (i+1)) ∧
  Fr (fun b=>v.ownBlock=some b) w w'/\v.ownBlock=some g:=by
 obtain ⟨i0,hi0,hz0,hz1,hz2⟩:=info_parts info3;obtain ⟨a,cap,rfl,hc1,hc2,ha⟩:=hv.shape;obtain ⟨g,o,rfl⟩:=ha (by omega);obtain ⟨cur,hcur,_,_,hfit0,_⟩:=hv.inner
 have hcs:(((L.drop (i+1)).take (L.length - (i+1))).flatMap nat1).length=(L.length - (i+1)) * 1:=by
  rw [zao zag];congr 1;simp
 have hn:(((L.drop (i+1)).take (L.length - (i+1))).flatMap nat1).length=Nat.min (L.length - (i+1)) (L.length - i) * i0.size:=by
  rw [hcs,hz1,show Nat.min (L.length - (i+1)) (L.length - i)=L.length - (i+1) from Nat.min_eq_left (by omega)]
 have hmul:(i+1) * 1+(L.length - (i+1)) * 1=L.length * 1:=by rw [<-Nat.add_mul];congr 1;omega
 have hmul2:i * 1+1 * 1=(i+1) * 1:=by rw [<-Nat.add_mul]
 have hmc:L.length * 1<=cap * 1:=Nat.mul_le_mul_right _ hc1;have hfit:o+i * 1+(((L.drop (i+1)).take (L.length - (i+1))).flatMap nat1).length<=cur.size:=by rw [hcs];omega
 have hpos:0 < (((L.drop (i+1)).take (L.length - (i+1))).flatMap nat1).length->((if cap=i then some (⟨g,o,none⟩:Addr) else some ⟨g,o+i,none⟩)=some ⟨g,o+i * 1,none⟩/\∃ ad,(if cap=i+1 then some (⟨g,o,none⟩:Addr) else some ⟨g,o+(i+1),none⟩)=some ad ∧
  ∀ j u,(((L.drop (i+1)).take (L.length - (i+1))).flatMap nat1)[j]? = some u->w.drew.cell? (ad.add j)=some u):=by
  intro hp;rw [hcs] at hp
  have hil:i+1 < L.length:=by
   rcases Nat.lt_or_ge (i+1) L.length with h | h
   · exact h
   rw [show L.length - (i+1)=0 by omega] at hp;simp at hp
  rw [if_neg (by omega),if_neg (by omega)];refine ⟨by simp,_,rfl,fun j u hu=>?_⟩;rw [List.take_of_length_le (by simp)] at hu;have h1:=(hv.drop zag (i+1) (by omega)).drew;have h2:SlF w.drew 3 1 nat1 (.slice (some ⟨g,o+(i+1) * 1,none⟩) (L.drop (i+1)).length (cap - (i+1))) (L.drop (i+1)):=(by rw [List.length_drop];exact h1);have h3:=SlF.cells zag h2 j u hu;simpa using h3
 have hcw:w.drew.heap[g]? = some (.cells cur 3 (0,0)):=hcur;have HN:=H_ hn;have HP:=H_ hpos;have HFT:=H_ hfit;have HV:=H_ hv;have HCS:=H_ hcs;have HCW:=H_ hcw;clear hn hpos hfit hv hcs hcw ha hmul hmul2 hmc hcur hfit0;have hi1:(i:Int)+1<=(L.length:Int):=by omega
 have hi2:(i:Int)<=(L.length:Int):=by omega
 have hi3:i+1<=L.length:=by omega
 have hi4:i<=L.length:=by omega
 have hi5:(0:Int)<=(i:Int)+1:=by omega
 have hi6:(0:Int)<=(i:Int):=by omega
 go_enter Tryz.func182,Tryz.ntmps182;go_wp2_with fail;refine wp_region_still_tail 7 (by kernel_rfl) (by kernel_rfl) ?_;simp only [List.take_succ_cons,List.take_zero,List.drop_succ_cons,List.drop_zero];change wpStill _ _ w.drew _ _ _
 repeat (refine wpStill_step (fun K hK=>?_);go_simp;(try go_bits);refine hK _ ?_;clear hK K)
 refine wpStill_nil ?_;change wpList _ _ _ _ _ w.drew;refine zbp rfl _ _ 76 76 3 i0 rfl Tryz.underlying76 hi0 _ _ _ _ _ _ g (o+i * 1) cur 3 (((L.drop (i+1)).take (L.length - (i+1))).flatMap nat1) rfl rfl HCW.out HN.out HP.out HFT.out (zkd _) ?_;intro w2 hw2 hg2;generalize (if cap=i then some (⟨g,o,none⟩:Addr) else some ⟨g,o+i,none⟩)=A1;generalize (if cap=i+1 then some (⟨g,o,none⟩:Addr) else some ⟨g,o+(i+1),none⟩)=A2;have hs2:=SlF.copied (w:=w.drew) (w':=w2) (L:=L) zag HV.out.drew (i+1) i (L.length - (i+1)) (by omega) (by omega) cur HCW.out (by rw [HCS.out] at hw2;exact hw2);have HS2:=H_ hs2;have HG2:=H_ hg2;clear hs2 hw2 hg2;have hj1:(0:Int)<=(L.length:Int) - 1:=by omega
 have hj2:(L.length:Int) - 1<=(cap:Int):=by omega
 have hj3:((L.length:Int) - 1).toNat=L.length - 1:=by omega
 go_wp2;go_ret;refine ⟨g,o,cap,rfl,?_,((Fr.refl _ w).drew).grown HG2.out fun k hk=>.inl (by cases hk;rfl),rfl⟩;have h4:=HS2.out;have hl2:(L.take i++(L.drop (i+1)).take (L.length - (i+1))++L.drop (i+(L.length - (i+1)))).length=L.length:=by simp;omega
 have h5:=SlF.take zag (by rw [hl2];exact h4) (L.length - 1) (by rw [hl2];omega);rw [cut_eq L i hi] at h5;exact h5
set_option maxHeartbeats 1000000 in
theorem zgw (w:World) (v:Value) (L:List Nat) (i:Nat) (x:Nat) (hv:SlF w 3 1 nat1 v L) (hi:i<=L.length) (hl:L.length<=1000) :
 Calls Tryz.prog 177 #[v,.int .i64 i,.int .i64 x] w fun e w'=>∃ g o cap,e = .returned (.slice (some ⟨g,o,none⟩) (L.length+1) cap) ∧
  SlF w' 3 1 nat1 (.slice (some ⟨g,o,none⟩) (L.length+1) cap) (L.take i++x :: L.drop i)/\Fr (fun b=>v.ownBlock=some b) w w'/\(v.ownBlock=some g\/w.heap.size<=g):=by
 obtain ⟨i0,hi0,hz0,hz1,hz2⟩:=info_parts info3;have hnew:=zay w [.int .i64 (x:Int)] 3 (0,0);have HV:=H_ hv;clear hv;have hil:(0:Int)<=(i:Int):=by omega
 go_enter Tryz.func177,Tryz.ntmps177;go_wp2_with (at_builtin;refine zas rfl _ _ 76 rfl 3 i0 _ 1 8 Tryz.underlying76 hi0 hz0 hz1 hz2 rfl (by decide) v L rfl (HV.out.alloc _) w.heap.size 1 x rfl (by simpa [nat1] using hnew) rfl (by intro u hu;simp [nat1] at hu;subst hu;rfl) (by unfold maxLen;omega) (by omega) ?_);intro g o cap w1 hs1 hg1 hb1 hlt1;have hgl:=HV.out.lt;have hF1:Fr (fun b=>v.ownBlock=some b) w w1:=(((Fr.refl _ w).alloc _).grown hg1 fun k hk=>.inl hk)
 have hgnew:v.ownBlock=some g\/w.heap.size<=g:=by
  rcases hb1 with e | e
  · exact .inl e
  right;omega
 have hL1:(L++[x]).length=L.length+1:=by simp
 obtain ⟨cur,hcur,hncap,_,hfit0,_⟩:=SlF.inner (L:=L++[x]) (by rw [hL1];exact hs1);rw [hL1] at hncap
 have hcs:((((L++[x]).drop i).take (L.length - i)).flatMap nat1).length=(L.length - i) * 1:=by
  rw [zao zag];congr 1;simp;omega
 have hn:((((L++[x]).drop i).take (L.length - i)).flatMap nat1).length=Nat.min (L.length+1 - i) (L.length - i) * i0.size:=by
  rw [hcs,hz1,show Nat.min (L.length+1 - i) (L.length - i)=L.length - i from Nat.min_eq_right (by omega)]
 have hfit:o+(i+1)+((((L++[x]).drop i).take (L.length - i)).flatMap nat1).length<=cur.size:=by rw [hcs];omega
 have hpos:0 < ((((L++[x]).drop i).take (L.length - i)).flatMap nat1).length->((if cap=i+1 then some (⟨g,o,none⟩:Addr) else some ⟨g,o+(i+1),none⟩)=some ⟨g,o+(i+1),none⟩/\∃ ad,(if cap=i then some (⟨g,o,none⟩:Addr) else some ⟨g,o+i,none⟩)=some ad ∧
  ∀ j u,((((L++[x]).drop i).take (L.length - i)).flatMap nat1)[j]? = some u->w1.drew.cell? (ad.add j)=some u):=by
  intro hp;rw [hcs] at hp;rw [if_neg (by omega),if_neg (by omega)];refine ⟨rfl,_,rfl,fun j u hu=>?_⟩;have hj:=(List.getElem?_eq_some_iff.1 hu).1;rw [hcs] at hj;have h1:=(SlF.drop (L:=L++[x]) zag (by rw [hL1];exact hs1) i (by rw [hL1];omega)).drew;have h2:SlF w1.drew 3 1 nat1 (.slice (some ⟨g,o+i * 1,none⟩) ((L++[x]).drop i).length (cap - i)) ((L++[x]).drop i):=(by rw [List.length_drop];exact h1)
  have hu2:(((L++[x]).drop i).flatMap nat1)[j]? = some u:=by
   have h6:=zdk zag ((L++[x]).drop i) (L.length - i);rw [<-h6,List.getElem?_take,if_pos (by omega)] at hu;exact hu
  have h3:=SlF.cells zag h2 j u hu2;simpa using h3
 have hcw:w1.drew.heap[g]? = some (.cells cur 3 (0,0)):=hcur;have H1:=H_ hs1;have HG1:=H_ hg1;have HL:=H_ hL1;have HN:=H_ hn;have HP:=H_ hpos;have HFT:=H_ hfit;have HCS:=H_ hcs;have HCW:=H_ hcw;clear hs1 hg1 hL1 hnew hn hpos hfit hcs hcw hcur hfit0;have hi1:(i:Int)+1<=(L.length:Int)+1:=by omega
 have hi5:(0:Int)<=(i:Int)+1:=by omega
 have hi2:(i:Int)<=(L.length:Int)+1:=by omega
 have hi3:i+1<=L.length+1:=by omega
 have hi4:i<=L.length+1:=by omega
 go_wp2_with fail;refine wp_region_still_tail 7 (by kernel_rfl) (by kernel_rfl) ?_;simp only [List.take_succ_cons,List.take_zero,List.drop_succ_cons,List.drop_zero];change wpStill _ _ w1.drew _ _ _
 repeat (refine wpStill_step (fun K hK=>?_);go_simp;(try go_bits);refine hK _ ?_;clear hK K)
 refine wpStill_nil ?_;change wpList _ _ _ _ _ w1.drew;refine zbp rfl _ _ 76 76 3 i0 rfl Tryz.underlying76 hi0 _ _ _ _ _ _ g (o+(i+1)) cur 3 ((((L++[x]).drop i).take (L.length - i)).flatMap nat1) rfl rfl HCW.out HN.out HP.out HFT.out (zkd _) ?_;intro w2 hw2 hgr2;generalize (if cap=i+1 then some (⟨g,o,none⟩:Addr) else some ⟨g,o+(i+1),none⟩)=A1;generalize (if cap=i then some (⟨g,o,none⟩:Addr) else some ⟨g,o+i,none⟩)=A2;have hs2:=SlF.copied (w:=w1.drew) (w':=w2) (L:=L++[x]) zag (by have:=H1.out;rw [HL.out];exact this) i (i+1) (L.length - i) (by simp;omega) (by simp;omega) cur HCW.out (by rw [HCS.out] at hw2;simpa using hw2);have HE:=H_ (zmj L x i hi);generalize hL2:((L++[x]).take (i+1)++((L++[x]).drop i).take (L.length - i)++(L++[x]).drop (i+1+(L.length - i)))=L2 at hs2 HE
 have hL2l:L2.length=L.length+1:=by rw [<-hL2];simp;omega
 obtain ⟨y,hy⟩:∃ y,L2[i]? = some y:=⟨_,List.getElem?_eq_getElem (by omega)⟩;have hs2':SlF w2 3 1 nat1 (.slice (some ⟨g,o,none⟩) L2.length cap) L2:=by rw [hL2l];rwa [HL.out] at hs2
 have d0:=hs2'.cell1 zag i hy rfl;have f0:=hs2'.free (o+i);have H2:=H_ hs2';have HY:=H_ hy;have HL2:=H_ hL2l;have HG2:=H_ hgr2;have hi6:(i:Int) < (L.length:Int)+1:=by omega
 have hi7:i < L.length+1:=by omega
 clear hs2 hs2' hy hL2 hL2l hgr2 hw2;go_wp2;go_ret;refine ⟨g,o,cap,rfl,?_,?_,hgnew⟩
 · have e1:=SlF.set zag H2.out i 0 (by omega) y x (.int .i64 x) HY.out rfl
   rw [HE.out,HL2.out] at e1;simpa using e1
 have hF2:Fr (fun b=>v.ownBlock=some b) w w2:=hF1.drew.grown HG2.out fun k hk=>by cases hk;exact hgnew
 exact hF2.setCell (p:=⟨g,o+i,none⟩) hgnew _
end Go.Proofs.YthljnnjpmdgkoaaGreat