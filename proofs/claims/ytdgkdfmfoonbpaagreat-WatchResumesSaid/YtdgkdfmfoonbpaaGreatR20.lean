/- Own lemmas. -/
import Derived.Test.YtdgkdfmfoonbpaaGreatR19
import Derived.Test.YtdgkdfmfoonbpaaGreatR18
namespace Go.Proofs.YtdgkdfmfoonbpaaGreat
open Go Go.Proofs Go.RowKit
set_option maxRecDepth 100000
def layGn (w:World) (g o:Nat) (y:Gen×Value):World:=((((w.setCell ⟨g,o,none⟩ (.int .i64 y.1.create)).setCell ⟨g,o+1,none⟩ (.int .i64 y.1.cut)).setCell ⟨g,o+2,none⟩ (y.2)).setCell ⟨g,o+3,none⟩ (.int .i64 y.1.end_))
theorem zuw {w:World} {g o cap:Nat} {L:List (Gen×Value)} (h:SlF w 187 4 genC (.slice (some ⟨g,o,none⟩) L.length cap) L) (i:Nat) {x:Gen×Value} (hx:L[i]?=some x) (y:Gen×Value) :
 SlF (layGn w g (o+i * 4) y) 187 4 genC (.slice (some ⟨g,o,none⟩) L.length cap) (L.set i y):=by
 have a:=(List.getElem?_eq_some_iff.1 hx).1
 have step:∀ {w:World} {M:List (Gen×Value)} {z:Gen×Value} (j:Nat) (u:Value) (z':Gen×Value),j<4->M.length=L.length->SlF w 187 4 genC (.slice (some ⟨g,o,none⟩) L.length cap) M->M[i]?=some z->genC z'=(genC z).set j u →
  SlF (w.setCell ⟨g,o+i * 4+j,none⟩ u) 187 4 genC (.slice (some ⟨g,o,none⟩) L.length cap) (M.set i z'):=by
  intro w M z j u z' e c b f d;rw [<-c] at b ⊢
  exact b.set zaj i j e z z' u f d
 have k:=step (z:=x) 0 (.int .i64 y.1.create) ((⟨y.1.create,x.1.cut,x.1.puts,x.1.end_⟩:Gen),x.2) (by omega) rfl h hx rfl;have l:=step (z:=((⟨y.1.create,x.1.cut,x.1.puts,x.1.end_⟩:Gen),x.2)) 1 (.int .i64 y.1.cut) ((⟨y.1.create,y.1.cut,x.1.puts,x.1.end_⟩:Gen),x.2) (by omega) (by simp) k (by simp [a]) rfl;have m:=step (z:=((⟨y.1.create,y.1.cut,x.1.puts,x.1.end_⟩:Gen),x.2)) 2 (y.2) ((⟨y.1.create,y.1.cut,x.1.puts,x.1.end_⟩:Gen),y.2) (by omega) (by simp) l (by simp [a]) rfl;have n:=step (z:=((⟨y.1.create,y.1.cut,x.1.puts,x.1.end_⟩:Gen),y.2)) 3 (.int .i64 y.1.end_) y (by omega) (by simp) m (by simp [a]) rfl;simpa [layGn,List.set_set] using n
theorem zux {S:Nat->Prop} {a w:World} (h:Fr S a w) (g o:Nat) (y:Gen×Value) (hg:S g):Fr S a (layGn w g o y):=by
 unfold layGn;exact (((h.setCell (.inl hg) _).setCell (.inl hg) _).setCell (.inl hg) _).setCell (.inl hg) _
def endP (rev:Int) (x:Gen×Value):Bool:=endB rev x.1
def keptP (rev:Int) (x:Gen×Value):Bool:=!endP rev x
def idxGn (P:Gen×Value->Bool) (l:List (Gen×Value)):Int:=if l.findIdx P=l.length then -1 else (l.findIdx P:Int)
theorem firstP {rev:Int} {L:List (Gen×Value)} {k:Nat} (h:L.findIdx (endP rev)=k) (hk:k<L.length):(L.take (k+1)).filter (keptP rev)=L.take k:=by
 obtain ⟨x,c⟩:∃ x,L[k]?=some x:=⟨_,List.getElem?_eq_getElem hk⟩
 have e:endP rev x=true:=by
  have:=(List.findIdx_eq hk).1 h;rw [(List.getElem?_eq_some_iff.1 c).2] at this;exact this.1
 rw [List.take_add_one,c,List.filter_append]
 have d:(L.take k).filter (keptP rev)=L.take k:=by
  rw [List.filter_eq_self];intro y f;obtain ⟨j,a⟩:=List.mem_iff_getElem?.1 f;have b:=(List.getElem?_eq_some_iff.1 a).1;rw [List.length_take] at b;rw [List.getElem?_take_of_lt (by omega)] at a;have:=((List.findIdx_eq hk).1 h).2 j (by omega);rw [(List.getElem?_eq_some_iff.1 a).2] at this;unfold keptP;rw [this];rfl
 rw [d];simp [keptP,e]
theorem allP {rev:Int} {L:List (Gen×Value)} (h:L.findIdx (endP rev)=L.length):L.filter (keptP rev)=L:=by
 rw [List.filter_eq_self];intro y a;rw [List.findIdx_eq_length] at h;unfold keptP;rw [h y a];rfl
theorem zry (l:List (Gen×Value)) (k:Nat) (x:Gen×Value) (h:k<l.length):(l.set k x).take (k+1)=l.take k++[x]:=by
 rw [List.take_add_one,List.getElem?_set_self h]
 congr 1
 refine List.ext_getElem? fun j=>?_;by_cases hj:j<k
 · rw [List.getElem?_take_of_lt hj,List.getElem?_take_of_lt hj,List.getElem?_set_ne (by omega)]
 rw [List.getElem?_eq_none (by simp;omega),List.getElem?_eq_none (by simp;omega)]
theorem zrz (l:List (Gen×Value)) (k i:Nat) (x:Gen×Value) (h:k<i):(l.set k x).drop i=l.drop i:=by
 refine List.ext_getElem? fun j=>?_;rw [List.getElem?_drop,List.getElem?_drop,List.getElem?_set_ne (by omega)]
def zv190:Value:=.agg #[.int .i64 0,.int .i64 0,.slice none 0 0,.int .i64 0]
theorem zero190 (w:World):(zeroValue 187).run Tryz.prog w=.ok zv190 w:=by kernel_rfl
set_option maxHeartbeats 2000000 in
theorem zno (w:World) (v:Value) (l:List (Gen×Value)) (rb:Nat) (rev:Int) (hb:w.cell? ⟨rb,0,none⟩=some (.int .i64 rev)) (hv:SlF w 187 4 genC v l) (hl:l.length<=1099511627) :
 Calls Tryz.prog 132 #[v,.func (.func 103) #[] #[.pointer (some ⟨rb,0,none⟩)]] w fun e w'=>e=.returned (.int .i64 (idxGn (endP rev) l))/\Fr No w w':=by
 obtain ⟨a,cap,rfl,F,G,A⟩:=hv.shape;have E:=H_ hv;clear hv;have C:=H_ A;clear A;have D:=H_ hb;clear hb;go_enter Tryz.func132,Tryz.ntmps132;go_wp2
 go_loopg [8] l.length (fun g s8 wr=>∃ i:Nat,s8=.int .i64 i/\i+g=l.length/\Hid (∀ j,j<i->∀ p,l[j]?=some p->endP rev p=false)/\Hid (Fr No w wr))
 case atStart=>exact ⟨0,rfl,by simp,H_ (by simp),H_ (Fr.refl No w)⟩
 case round =>
  obtain ⟨i,rfl,I,o,f⟩:=hrel
  cases gk with
  | zero =>
    have t:¬ (i:Int)<(l.length:Int):=(by omega);go_wp2;go_ret;refine ⟨?_,f.out⟩
    have u:l.findIdx (endP rev)=l.length:=by
     rw [List.findIdx_eq_length];intro x c;obtain ⟨j,n,rfl⟩:=List.getElem_of_mem c;exact o.out j (by omega) _ (List.getElem?_eq_getElem n)
    unfold idxGn;rw [if_pos u]
    rfl
  | succ g =>
    obtain ⟨H,go,rfl⟩:=C.out (by omega);obtain ⟨p,c⟩:∃ p,l[i]?=some p:=⟨_,List.getElem?_eq_getElem (by omega)⟩;have b:=E.out.fr0 f.out;have J:=b.cell0 zaj i c rfl;have K:=b.cell zaj i 1 c rfl;have L:=b.cell zaj i 2 c rfl;have M:=b.cell zaj i 3 c rfl;have t:(i:Int)<(l.length:Int):=(by omega);have d:=zip wr p.1 p.2 rb rev (f.out.cell0 D.out);have m:endB rev p.1=endP rev p:=rfl;rw [m] at d;have z:=H_ c;clear c b m;generalize B:endP rev p=q at *;have y:=H_ B;clear B;cases q
    · go_wp2_with (go_at_call 103;refine d.mono ?_;rintro e w1 ⟨rfl,r⟩)
      go_roundg g
      case rel=>exact ⟨i+1,by go_num,by omega,H_ (fun j n q hq=>by
       by_cases hji:j=i
       · subst hji;rw [z.out] at hq;cases hq;exact y.out
       exact o.out j (by omega) q hq),H_ (f.out.trans0 r)⟩
      case measure=>omega
    go_wp2_with (go_at_call 103;refine d.mono ?_;rintro e w1 ⟨rfl,r⟩)
    go_ret;refine ⟨?_,f.out.trans0 r⟩
    have u:l.findIdx (endP rev)=i:=by
     have k:i<l.length:=(by omega);rw [List.findIdx_eq k];have s:l[i]=p:=(List.getElem?_eq_some_iff.1 z.out).2;refine ⟨by rw [s];exact y.out,fun j n=>?_⟩;exact o.out j n _ (List.getElem?_eq_getElem (by omega))
    unfold idxGn;rw [u,if_neg (by omega)]
    rfl
set_option maxHeartbeats 8000000 in
theorem znv (w:World) (v:Value) (L:List (Gen×Value)) (rb:Nat) (rev:Int) (hb:w.cell? ⟨rb,0,none⟩=some (.int .i64 rev)) (hv:SlF w 187 4 genC v L) (hn:v.ownBlock≠some rb) (hl:L.length<=1099511627) (hsh:∀ p∈L,∃ a n c,p.2=.slice a n c) :
 Calls Tryz.prog 102 #[v,.func (.func 103) #[] #[.pointer (some ⟨rb,0,none⟩)]] w fun e w'=>∃ v',e=.returned v'/\SlF w' 187 4 genC v' (L.filter (keptP rev))/\Fr (fun b=>v.ownBlock=some b) w w'/\v'.ownBlock=v.ownBlock:=by
 have Z:=fun W (h:Fr No w W)=>zno W v L rb rev (h.cell0 hb) (hv.fr0 h) hl;obtain ⟨a,cap,rfl,aL,aM,ha⟩:=hv.shape;have u:=H_ Z;clear Z;by_cases D:L.findIdx (endP rev)=L.length
 · have r:idxGn (endP rev) L = -1:=by unfold idxGn;rw [if_pos D]
   rw [r] at u;have R:=allP D;rw [R];have HV:=H_ hv;clear hv r D R hsh;go_enter Tryz.func102,Tryz.ntmps102;go_wp2_with (go_at_call 132;refine (u.out _ (Fr.refl No w)).mono ?_;rintro e w1 ⟨rfl,B⟩);go_ret;exact ⟨_,rfl,HV.out.fr0 B,B.mono fun _ _ h=>h.elim,rfl⟩
 have hk:L.findIdx (endP rev)<L.length:=Nat.lt_of_le_of_ne List.findIdx_le_length D
 have r:idxGn (endP rev) L=(L.findIdx (endP rev):Int):=(by unfold idxGn;rw [if_neg D]);rw [r] at u;have S:=firstP rfl hk;generalize ak:L.findIdx (endP rev)=k0 at *;obtain ⟨m,go,rfl⟩:=ha (by omega);have al:m≠rb:=fun e=>hn (by rw [<-e];rfl);have HV:=H_ hv;have HB:=H_ hb;have H:=H_ S;have ag:=H_ hsh;clear hv r D S ak ha hb hn hsh;have aS:((k0:Int) == -1)=false:=(by rw [beq_eq_false_iff_ne];omega);go_enter Tryz.func102,Tryz.ntmps102;go_wp2_with (go_at_call 132;refine (u.out _ (Fr.refl No w)).mono ?_;rintro e w1 ⟨rfl,B⟩)
 go_loopg [5,6] L.length (fun g s5 s6 wr=>∃ (k i:Nat) (M:List (Gen×Value)),s5=.int .i64 k/\s6=.int .i64 i/\k<i/\i<=L.length/\i+g=L.length+k0+1/\k0<i/\M.length=L.length/\Hid (M.take k=(L.take i).filter (keptP rev))/\Hid (M.drop i=L.drop i) ∧
  Hid (SlF wr 187 4 genC (.slice (some ⟨m,go,none⟩) L.length cap) M)/\Hid (Fr (fun b=>b=m) w wr))
 case atStart=>exact ⟨k0,k0+1,L,rfl,by go_num,by omega,by omega,by omega,by omega,rfl,H_ H.out.symm,H_ rfl,H_ (HV.out.fr0 B),H_ (B.mono fun _ _ h=>h.elim)⟩
 case round =>
  obtain ⟨k,i,M,rfl,rfl,aT,aP,aQ,av,E,HT,HD,HS,HF⟩:=hrel;by_cases hil:i<L.length
  · cases gk with
    | zero=>omega
    | succ g =>
      have Y:(i:Int)<(L.length:Int):=(by omega);have ay:(k:Int)<(L.length:Int):=(by omega);obtain ⟨x,hx⟩:∃ x,L[i]?=some x:=⟨_,List.getElem?_eq_getElem hil⟩
      have z:M[i]?=some x:=by
       have:=congrArg (fun l=>l[0]?) HD.out;simp only [List.getElem?_drop,Nat.add_zero] at this;rw [this];exact hx
      have d:SlF wr 187 4 genC (.slice (some ⟨m,go,none⟩) M.length cap) M:=(by rw [E];exact HS.out);obtain ⟨y,hy⟩:∃ y,M[k]?=some y:=⟨_,List.getElem?_eq_getElem (by omega)⟩;have ao:m<wr.heap.size:=d.lt m rfl;have an:=HF.out.cell HB.out (fun e=>al e.symm);have F:=fun W (h:Fr No wr W)=>zip W x.1 x.2 rb rev (h.cell0 an);have aN:∀ j,wr.frozen? ⟨m,j,none⟩=false:=fun j=>d.free j;have a3:endB rev x.1=endP rev x:=rfl;rw [a3] at F;obtain ⟨xa,xn,xc,a5⟩:=ag.out x (List.mem_of_getElem? hx)
      have a2:∀ (W:World),Fr No wr W->SlF (layGn W m (go+k * 4) x) 187 4 genC (.slice (some ⟨m,go,none⟩) L.length cap) (M.set k x):=fun (W:World) (h:Fr No wr W)=>by
       have:=zuw (d.fr0 h) k hy x;rw [E] at this;exact this
      have a1:=fun (W:World) (h:Fr (fun b=>b=m) w W)=>zux h m (go+k * 4) x rfl
      have a4:(L.take (i+1)).filter (keptP rev)=(L.take i).filter (keptP rev)++(if endP rev x then [] else [x]):=by
       rw [List.take_add_one,hx,List.filter_append]
       congr 1
       cases hq:endP rev x <;> simp [keptP,hq]
      have Q:M.drop (i+1)=L.drop (i+1):=by
       have:=congrArg (List.drop 1) HD.out
       rwa [List.drop_drop,List.drop_drop] at this
      generalize hq:endP rev x=q at *;have z0:=d.cell0 zaj i z rfl;have u0:=d.cell0 zaj k hy rfl;have z1:=d.cell zaj i 1 z rfl;have u1:=d.cell zaj k 1 hy rfl;have z2:=d.cell zaj i 2 z rfl;have u2:=d.cell zaj k 2 hy rfl;have z3:=d.cell zaj i 3 z rfl;have u3:=d.cell zaj k 3 hy rfl;have J:=H_ a2;have I:=H_ a1;have K:=H_ F;have N:=H_ a4;have G:=H_ Q;have ah:=H_ d;clear a2 a1 F a4 Q d hx z hq a3;obtain ⟨⟨x0,x1,xp,x3⟩,pv⟩:=x;dsimp only at a5;subst a5;unfold layGn at J I;dsimp only at *;cases q
      · go_wp2_with (go_at_call 103;refine (K.out _ ((Fr.refl No wr).alloc _)).mono ?_;rintro e C ⟨rfl,t⟩
                     have s:=t.heap (zae wr (Obj.cells #[.int .i64 x0,.int .i64 x1,.slice xa xn xc,.int .i64 x3] 187) _ rfl) id;have o:Fr No wr C:=((Fr.refl No wr).alloc _).trans0 t;have c0:C.cell? ⟨wr.heap.size,0,none⟩=some (.int .i64 x0):=cellAt s 0 rfl;have u0:=o.cell0 u0;have c1:C.cell? ⟨wr.heap.size,1,none⟩=some (.int .i64 x1):=cellAt s 1 rfl;have u1:=o.cell0 u1;have c2:C.cell? ⟨wr.heap.size,2,none⟩=some (.slice xa xn xc):=cellAt s 2 rfl;have u2:=o.cell0 u2;have c3:C.cell? ⟨wr.heap.size,3,none⟩=some (.int .i64 x3):=cellAt s 3 rfl;have u3:=o.cell0 u3;have au:∀ j,C.frozen? ⟨m,j,none⟩=false:=fun j=>(ah.out.fr0 o).free j;have aA:m<C.heap.size:=Nat.lt_of_lt_of_le ao o.size;have aV:=zac s;clear s t)
        go_roundg g
        case rel=>exact ⟨k+1,i+1,_,by go_num,by go_num,by omega,by omega,by omega,by omega,by rw [List.length_set];exact E,H_ (by rw [zry _ _ _ (by omega),N.out,HT.out];simp),H_ (by rw [zrz _ _ _ _ (by omega)];exact G.out),H_ (J.out C o),H_ (I.out C (HF.out.trans0 o))⟩
        case measure=>omega
      go_wp2_with (go_at_call 103;refine (K.out _ ((Fr.refl No wr).alloc _)).mono ?_;rintro e C ⟨rfl,t⟩)
      go_roundg g
      case rel=>exact ⟨k,i+1,M,rfl,by go_num,by omega,by omega,by omega,by omega,E,H_ (by rw [N.out,HT.out];simp),G,H_ (HS.out.fr0 (((Fr.refl No wr).alloc _).trans0 t)),H_ (HF.out.trans0 (((Fr.refl No wr).alloc _).trans0 t))⟩
      case measure=>omega
  have Y:¬ (i:Int)<(L.length:Int):=by omega
  have aj:i=L.length:=(by omega);have ai:Hid (M.take k=L.filter (keptP rev)):=H_ (by rw [HT.out,aj,List.take_length]);clear HT HD u HV HB H;have aU:(k:Int)<=(L.length:Int):=(by omega);have s:(k:Int)<=(cap:Int):=(by omega);have aw:k<=cap:=(by omega);have ax:¬ cap=k:=(by omega);have d:SlF wr 187 4 genC (.slice (some ⟨m,go,none⟩) M.length cap) M:=(by rw [E];exact HS.out)
  obtain ⟨f,A,T⟩:∃ f:Array Value,wr.heap[m]?=some (.cells f 187 (0,0))/\go+L.length * 4<=f.size:=by
   rcases d.2 with ⟨D,_⟩ | ⟨g',o',aq,f,hv,hg,h2,h3,h4,h5⟩
   · cases D
   simp only [Value.slice.injEq,Option.some.injEq,Addr.mk.injEq,and_true] at hv
   obtain ⟨⟨rfl,rfl⟩,_,rfl⟩:=hv;have:L.length * 4<=cap * 4:=Nat.mul_le_mul_right _ (by omega);exact ⟨f,hg,by omega⟩
  have a0:go+k * 4+(L.length-k) * 4<=f.size:=(by omega);obtain ⟨w3,az,V,X⟩:=zep (P:=Tryz.prog) wr 184 187 0 _ Tryz.underlying184 zero190 (by decide) m (go+k * 4) (L.length-k) (cap-k) f 187 A (by exact a0);have U:Fr (fun b=>b=m) wr w3:=(Fr.refl _ wr).grown X fun j hj=>.inl (by simpa using hj.symm);have O:=SlF.cleared zaj d k (by omega) f A (Builtin.zeroCells zv190.cells (L.length-k)).toList (by rw [zbl,E];rfl) (by rw [E];exact V);have ad:=H_ O;clear d O V X A T a0;go_wp2;go_ret;exact ⟨_,rfl,by rw [<-ai.out];exact ad.out,(HF.out.trans U fun _ _ h=>h).mono fun b _ h=>by rw [h];rfl,rfl⟩
def compK (rev:Int) (K:List Gen):List Gen:=(K.filter fun x=>!endB rev x).map (compG rev)
theorem zly (rev:Int) (Z:List (Gen×Value)):(Z.filter (keptP rev)).map (·.1)=(Z.map (·.1)).filter fun x=>!endB rev x:=by
 rw [List.filter_map]
 rfl
theorem KeyRep.kept {w w':World} {g:Nat} {v v':Value} {Z:List (Gen×Value)} {last:Int} (h:KeyRep w g v Z last) (rev:Int) (hf:Fr (fun b=>v.ownBlock=some b) w w') (hs:SlF w' 187 4 genC v' (Z.filter (keptP rev))) (ho:v'.ownBlock=v.ownBlock) :
 KeyRep (w'.setCell ⟨g,0,none⟩ v') g v' (Z.filter (keptP rev)) last:=by
 have f:∀ (i:Nat) (p:Gen×Value),(Z.filter (keptP rev))[i]?=some p->∃ j:Nat,Z[j]?=some p:=fun i p hp =>
  List.mem_iff_getElem?.1 (List.mem_filter.1 (List.mem_of_getElem? hp)).1
 have l:Fr (fun b=>b=g) w' (w'.setCell ⟨g,0,none⟩ v'):=(Fr.refl _ w').setAt 0 _
 have k:(Z.filter (keptP rev)).Pairwise fun p q=>∀ b,p.2.ownBlock=some b->q.2.ownBlock≠some b:=by
  refine List.Pairwise.sublist List.filter_sublist ?_;rw [List.pairwise_iff_getElem];intro i j m d u b a c;have:=h.apart2 i j _ _ (List.getElem?_eq_getElem m) (List.getElem?_eq_getElem d) b a c;omega
 rw [List.pairwise_iff_getElem] at k
 exact {
  obj:=(h.obj.fr hf h.own).set 0 v'
  gens:=hs.fr l fun b a e=>h.own (by have t:b=g:=e;rw [<-t,<-ho];exact a)
  puts:=fun i p hp=>by
   obtain ⟨j,d⟩:=f i p hp;exact ((h.puts j p d).fr hf fun b a e=>(h.apart j p d b a).2 e).fr l fun b a e=>(h.apart j p d b a).1 e
  apart:=fun i p hp b a=>by
   obtain ⟨j,d⟩:=f i p hp;rw [ho];exact h.apart j p d b a
  apart2:=fun i j p q m d b a c=>by
   obtain ⟨n,o⟩:=List.getElem?_eq_some_iff.1 m;obtain ⟨r,s⟩:=List.getElem?_eq_some_iff.1 d;rcases Nat.lt_trichotomy i j with e | e | e
   · exact absurd c (k i j n r e b (by rw [o];exact a) |> fun h=>by rw [s] at h;exact h)
   · exact e
   exact absurd a (k j i r n e b (by rw [s];exact c) |> fun h=>by rw [o] at h;exact h)
  own:=by rw [ho];exact h.own }
set_option maxHeartbeats 8000000 in
theorem zgb (w:World) (g:Nat) (K:List Gen) (last rev:Int) (F:Nat->Prop) (h:KeyAt w g K last F) (hK:Fits K) :
 Calls Tryz.prog 80 #[.pointer (some ⟨g,0,none⟩),.int .i64 rev] w fun e w'=>e=.returned (.bool (decide (0<(compK rev K).length)))/\Fr F w w'/\∃ F',KeyAt w' g (compK rev K) last F'/\∀ b,F' b->F b:=by
 obtain ⟨gv,s,M,rfl,hF⟩:=h;obtain ⟨a0,y,rfl,b8,b9,aT⟩:=M.gens.shape;have T:s.length<=1099511627:=by have:=hK.1;rwa [List.length_map] at this
 have ar:∀ p∈s,∃ a n c,p.2=.slice a n c:=fun p hp=>by
  obtain ⟨j,hj⟩:=List.mem_iff_getElem?.1 hp;obtain ⟨a,c,h1,_⟩:=(M.puts j p hj).shape;exact ⟨a,_,c,h1⟩
 have R:=fun W rb (hb:W.cell? ⟨rb,0,none⟩=some (.int .i64 rev)) hv hn=>znv W (.slice a0 s.length y) s rb rev hb hv hn T ar;have N:=H_ R
 have a2:Fits ((s.filter (keptP rev)).map (·.1)):=by
  rw [zly];exact ⟨Nat.le_trans (List.length_filter_le _ _) hK.1,fun x E=>hK.2 x (List.mem_filter.1 E).1⟩
 have C:∀ p,p∈s.filter (keptP rev)->p∈s:=fun p hp=>(List.mem_filter.1 hp).1;have al:compK rev (s.map (·.1))=((s.filter (keptP rev)).map (·.1)).map (compG rev):=by rw [zly];rfl
 have r:=fun w' v'=>KeyRep.kept (w:=w.alloc (Obj.cells #[.int .i64 rev] 3)) (w':=w') (v':=v') (M.fr (((Fr.refl No w).alloc (Obj.cells #[.int .i64 rev] 3))) fun _ _ h=>h) rev;rw [al];have aX:(s.filter (keptP rev)).length<=1099511627:=Nat.le_trans (List.length_filter_le _ _) T;have hZ:∃ Z,s.filter (keptP rev)=Z:=⟨_,rfl⟩;obtain ⟨Z,hZ⟩:=hZ;rw [hZ] at a2 r aX C N ⊢
 have am:∀ b,(Value.slice a0 s.length y).ownBlock=some b->b<w.heap.size:=M.gens.lt;have c0:=M.obj.cell 0 rfl;have f0:=M.obj.free 0;have lg:=M.obj.lt;have HR:=H_ M;have HF:=H_ hF;have HK:=H_ a2;have Y:=H_ r;have X:=H_ am;have af:=H_ C
 have aj:(w.alloc (Obj.cells #[.int .i64 rev] 3)).cell? ⟨w.heap.size,0,none⟩=some (.int .i64 rev):=by
  unfold World.cell?;simp only;rw [show (w.alloc (Obj.cells #[.int .i64 rev] 3)).heap[w.heap.size]?=some (.cells #[.int .i64 rev] 3 (0,0)) from zae _ _ _ rfl]
  rfl
 have aH:=H_ aj;clear aj;clear R M hF hK a2 r am C ar al aT;go_enter Tryz.func80,Tryz.ntmps80
 go_wp2_with (go_at_call 102;refine (N.out _ w.heap.size aH.out (HR.out.gens.alloc _) (fun e=>by have:=X.out _ e;omega)).mono ?_;rintro e w1 ⟨v1,rfl,a6,t,ap⟩
              obtain ⟨a,cap,rfl,bq,br,ha⟩:=a6.shape;have O:=t.heap (zae w (Obj.cells #[.int .i64 rev] 3) _ rfl) (fun e=>by have:=X.out _ e;omega);have z:Fr F w w1:=(((Fr.refl No w).alloc _).mono fun _ _ h=>h.elim).trans t fun b hb e=>(HF.out b).2 (.inr (.inl e));have B:¬ (Value.slice a0 s.length y).ownBlock=some g:=HR.out.own;have aP:=t.cell (((Fr.refl No w).alloc (Obj.cells #[.int .i64 rev] 3)).cell0 c0) B;have aQ:=t.free (((Fr.refl No w).alloc (Obj.cells #[.int .i64 rev] 3)).cell0 c0) (((Fr.refl No w).alloc (Obj.cells #[.int .i64 rev] 3)).free0 c0 f0) B;have bC:g<w1.heap.size:=Nat.lt_of_lt_of_le lg z.size;have HA:=H_ ha;have aN:=H_ a6;have H:=H_ ap;have ab:=H_ z;have aJ:=H_ t;clear ha a6 ap z t B)
 have a5:KeyRep (w1.setCell ⟨g,0,none⟩ (.slice a Z.length cap)) g (.slice a Z.length cap) Z last:=Y.out _ _ aJ.out aN.out H.out;have I:Fr (fun b=>b=g) w1 (w1.setCell ⟨g,0,none⟩ (.slice a Z.length cap)):=(Fr.refl _ w1).setAt 0 _;have P:=I.heap O (fun e=>by have e':w.heap.size=g:=e;omega);have bn:(w1.setCell ⟨g,0,none⟩ (.slice a Z.length cap)).cell? ⟨g,0,none⟩=some (.slice a Z.length cap):=a5.obj.cell 0 rfl;have aR:F g:=(HF.out g).2 (.inl rfl);have S:Fr F w (w1.setCell ⟨g,0,none⟩ (.slice a Z.length cap)):=ab.out.trans I fun b _ e=>by have e':b=g:=e;rw [e'];exact aR
 have aM:=H_ a5;have aG:=H_ P;have aK:=H_ S;have be:=I.size;generalize w1.setCell ⟨g,0,none⟩ (.slice a Z.length cap)=W2 at *;have bD:g<W2.heap.size:=by omega
 clear a5 O P S I f0 aQ c0 aP
 go_loopg [24] Z.length (fun gg s24 wr=>∃ (i:Nat) (v:List (Gen×Value)),s24=.int .i64 i/\i+gg=Z.length/\v.length=Z.length/\Hid (v.map (·.1)=((Z.map (·.1)).take i).map (compG rev)++(Z.map (·.1)).drop i)/\Hid (v.map (·.2.ownBlock)=Z.map (·.2.ownBlock)) ∧
  Hid (KeyRep wr g (.slice a Z.length cap) v last)/\Hid (Fr F w wr)/\Hid (wr.heap[w.heap.size]?=some (.cells #[.int .i64 rev] 3 (0,0))))
 case atStart=>exact ⟨0,Z,rfl,by simp,rfl,H_ (by simp),H_ rfl,aM,aK,aG⟩
 case round =>
  obtain ⟨i,v,rfl,hi,J,HM,HO,q,V,HB⟩:=hrel
  cases gk with
  | zero =>
    have aW:¬ (i:Int)<(Z.length:Int):=(by omega);have d0:=q.out.obj.cell 0 rfl;have ld:=q.out.obj.lt;have hdd:decide (0<((Z.map (·.1)).map (compG rev)).length)=decide ((0:Int)<(Z.length:Int)):=(by rw [List.length_map,List.length_map,decide_eq_decide];omega);have aI:=H_ hdd;clear hdd;go_wp2;go_ret;refine ⟨by first | rfl | (rw [aI.out];rfl) | simp,V.out,keyF g (.slice a Z.length cap) v,⟨_,v,q.out,?_,fun b=>Iff.rfl⟩,fun b hb=>?_⟩
    · rw [HM.out,List.take_of_length_le (by simp;omega),List.drop_eq_nil_of_le (by simp;omega),List.append_nil]
      try simp
    refine (HF.out b).2 ?_
    rcases (zqf HO.out b).1 hb with h | h | ⟨j,p,hp,h⟩
    · exact .inl h
    · exact .inr (.inl (by rw [<-H.out];exact h))
    obtain ⟨i',aV⟩:=List.mem_iff_getElem?.1 (af.out p (List.mem_of_getElem? hp))
    exact .inr (.inr ⟨i',p,aV,h⟩)
  | succ gg =>
    obtain ⟨o,go,rfl⟩:=HA.out (by omega);obtain ⟨⟨x,pv⟩,E⟩:∃ p,v[i]?=some p:=⟨_,List.getElem?_eq_getElem (by omega)⟩;have aW:(i:Int)<(Z.length:Int):=(by omega);have k:KeyRep wr g (.slice (some ⟨o,go,none⟩) v.length cap) v last:=(by rw [J];exact q.out)
    have a7:(Z.map (·.1))[i]?=some x:=by
     have:=congrArg (fun l=>l[i]?) HM.out;simp only [List.getElem?_map,E,Option.map_some] at this;rw [List.getElem?_append_right (by simp;omega)] at this;simp only [List.length_map,List.length_take,List.getElem?_drop] at this;rw [Nat.min_eq_left (by omega),show i+(i-i)=i by omega] at this;exact this.symm
    have A:=HK.out.2 x (List.mem_of_getElem? a7);have a4:=k.puts i _ E;have y0:=k.gens.cell0 zaj i E rfl;have y1:=k.gens.cell zaj i 1 E rfl;have y2:=k.gens.cell zaj i 2 E rfl;have y3:=k.gens.cell zaj i 3 E rfl;have d0:=q.out.obj.cell 0 rfl;have ld:=q.out.obj.lt;have b3:=k.gens.lt o rfl;have aU:∀ j,wr.frozen? ⟨o,j,none⟩=false:=fun j=>k.gens.free j;have D:wr.cell? ⟨w.heap.size,0,none⟩=some (.int .i64 rev):=(by simp [World.cell?,HB.out]);have bF:=zac HB.out;have av:=fun W (h:Fr No wr W)=>zjk W x pv rev (a4.fr0 h) (by have:=A.1;omega);have au:=zds x.puts rev;have ak:compG rev x=if 1<upTo x.puts rev then { x with cut:=x.cut+((upTo x.puts rev:Int)-1),puts:=x.puts.drop (upTo x.puts rev-1) } else x:=rfl;have ag:=H_ av;have HX:=H_ E;have ah:=H_ a7
    have ad:=H_ k;have a1:=H_ a4;have G:=H_ ak;clear av E a7 k a4 ak;generalize hn:upTo x.puts rev=n at *;obtain ⟨x1,x2,u,x4⟩:=x;dsimp only at *;by_cases hn1:1<n
    · have ao:(1:Int)<(n:Int):=by omega
      rw [if_pos hn1] at G;obtain ⟨pa,pc,rfl,a3,b0,L⟩:=a1.out.shape
      (try dsimp only at a3 L)
      obtain ⟨pb,po,rfl⟩:=L (by omega);go_upto_region 8 with fail
      go_cut [7] (fun s7 wx=>s7=.int .i64 n/\Hid (Fr No wr wx))
      case first =>
       go_region_held3 (fun W=>W.cell? ⟨o,go+i * 4,none⟩=some (.int .i64 x1)/\W.cell? ⟨o,go+i * 4+1,none⟩=some (.int .i64 x2)/\W.cell? ⟨o,go+i * 4+2,none⟩=some (.slice (some ⟨pb,po,none⟩) u.length pc) ∧
        W.cell? ⟨o,go+i * 4+3,none⟩=some (.int .i64 x4)/\W.cell? ⟨w.heap.size,0,none⟩=some (.int .i64 rev))
        (first | exact ⟨y0,y1,y2,y3,D⟩ | exact ⟨d.cell0 y0,d.cell0 y1,d.cell0 y2,d.cell0 y3,d.cell0 D⟩)
        (first | (go_at_call 104;refine (ag.out _ (by (repeat (first | with_reducible exact Fr.refl _ _ | with_reducible refine Fr.drew ?_));done)).mono ?_;rintro e w3 ⟨rfl,d⟩))
       all_goals
        go_wp2;go_meet
        case rel=>exact ⟨rfl,H_ (Fr.trans0 (by (repeat (first | with_reducible exact Fr.refl _ _ | with_reducible refine Fr.drew ?_));done) d)⟩
      case rest =>
       obtain ⟨rfl,f⟩:=hcut;have z1:=f.out.cell0 y1;have z2:=f.out.cell0 y2;have fz:=fun j=>(ad.out.fr f.out fun _ _ h=>h).gens.free j;have bE:o<wc.heap.size:=Nat.lt_of_lt_of_le b3 f.out.size;clear y0 y1 y2 y3 D aU;obtain ⟨m,rfl⟩:∃ m,n=m+1:=⟨n-1,by omega⟩;have aY:0<m:=(by omega);have bf:=A.2.1;have bg:=A.2.2;have bw:=A.1;have bu:(m:Int)<=(u.length:Int):=(by omega);have bd:m<=u.length:=(by omega);have bt:(u.length:Int)<=(pc:Int):=(by omega);have bv:¬ u.length=m:=(by omega);have an:m<u.length:=(by omega)
       have U:=KeyRep.setGen (ad.out.fr f.out fun _ _ h=>h) i HX.out ⟨x1,x2+m,u.drop m,x4⟩ (.slice (some ⟨pb,po+m,none⟩) (u.length-m) (u.length-m)) rfl rfl rfl
        (by have:=SlF.cut3 zbj (a1.out.fr0 f.out) m an;simpa using this)
       have Q:compG rev ⟨x1,x2,u,x4⟩=⟨x1,x2+m,u.drop m,x4⟩:=by
        rw [G.out,show ((m+1:Nat):Int)-1=(m:Int) by omega]
        rfl
       have ae:=H_ U;have aa:=H_ Q;have bb:o<w.heap.size:=X.out o (by rw [<-H.out];rfl);clear hn A au aY U Q;go_upto_region 11 with fail
       go_region
       go_wp2;go_roundg gg
       case rel =>
        obtain ⟨hk,hf⟩:=ae.out;rw [J] at hk;refine ⟨i+1,_,by go_num,by omega,by rw [List.length_set];exact J,H_ ?_,H_ ?_,H_ (hk.fr (Fr.refl No _).drew fun _ _ h=>h),H_ ?_,H_ ?_⟩
        · rw [List.map_set,HM.out]
          exact zst ah.out aa.out
        · rw [List.map_set,<-HO.out]
          refine zuf ?_;rw [List.getElem?_map,HX.out]
          rfl
        · refine ((V.out.trans0 f.out).trans hf fun b _ e=>?_).drew
          have e':b=o:=e;rw [e'];exact (HF.out o).2 (.inr (.inl (by rw [<-H.out];rfl)))
        exact (hf.drew).heap (f.out.heap HB.out id) (fun e=>by have e':w.heap.size=o:=e;omega)
       case measure=>omega
    have ao:¬ (1:Int)<(n:Int):=by omega
    rw [if_neg hn1] at G;obtain ⟨pa,pc,rfl,a3,b0,L⟩:=a1.out.shape
    (try dsimp only at a3 L)
    go_upto_region 8 with fail
    go_cut [7] (fun s7 wx=>s7=.int .i64 n/\Hid (Fr No wr wx))
    case first =>
     go_region_held3 (fun W=>W.cell? ⟨o,go+i * 4,none⟩=some (.int .i64 x1)/\W.cell? ⟨o,go+i * 4+1,none⟩=some (.int .i64 x2)/\W.cell? ⟨o,go+i * 4+2,none⟩=some (.slice pa u.length pc) ∧
      W.cell? ⟨o,go+i * 4+3,none⟩=some (.int .i64 x4)/\W.cell? ⟨w.heap.size,0,none⟩=some (.int .i64 rev))
      (first | exact ⟨y0,y1,y2,y3,D⟩ | exact ⟨d.cell0 y0,d.cell0 y1,d.cell0 y2,d.cell0 y3,d.cell0 D⟩)
      (first | (go_at_call 104;refine (ag.out _ (by (repeat (first | with_reducible exact Fr.refl _ _ | with_reducible refine Fr.drew ?_));done)).mono ?_;rintro e w3 ⟨rfl,d⟩))
     all_goals
      go_wp2;go_meet
      case rel=>exact ⟨rfl,H_ (Fr.trans0 (by (repeat (first | with_reducible exact Fr.refl _ _ | with_reducible refine Fr.drew ?_));done) d)⟩
    case rest =>
     obtain ⟨rfl,f⟩:=hcut;go_wp2;go_roundg gg
     case rel=>exact ⟨i+1,v,by go_num,by omega,J,H_ (by rw [HM.out];exact zur ah.out G.out),HO,H_ (q.out.fr f.out fun _ _ h=>h),H_ (V.out.trans0 f.out),H_ (f.out.heap HB.out id)⟩
     case measure=>omega
structure HOrd (K:List Gen):Prop where
 ends:K.Pairwise fun a b=>0<a.end_/\(b.end_=0\/a.end_<=b.end_)
 puts:∀ x∈K,x.puts.Pairwise (· < ·)
theorem HOrd.put {K:List Gen} (h:HOrd K) {R:Int} (hM:∀ x∈K,∀ p∈x.puts,p<R) (he:∀ x∈K,0<=x.end_):HOrd (putK K R):=by
 unfold putK
 split
 · rename_i ho
   obtain ⟨L,x,rfl,i⟩:=zci ho;rw [zbt];obtain ⟨a,b,c⟩:=List.pairwise_append.1 h.ends;refine ⟨List.pairwise_append.2 ⟨a,by simp,fun y d z hz=>?_⟩,fun y d=>?_⟩
   · rw [List.mem_singleton.1 hz]
     exact c y d x (by simp)
   rcases List.mem_append.1 d with e | e
   · exact h.puts y (List.mem_append_left _ e)
   rw [List.mem_singleton.1 e]
   refine List.pairwise_append.2 ⟨h.puts x (by simp),by simp,fun p hp q hq=>?_⟩;rw [List.mem_singleton.1 hq];exact hM x (by simp) p hp
 rename_i ho
 have f:∀ y∈K,0<y.end_:=by
  rcases List.eq_nil_or_concat K with rfl | ⟨L,x,rfl⟩
  · simp
  simp only [List.concat_eq_append] at *
  obtain ⟨a,b,c⟩:=List.pairwise_append.1 h.ends;intro y d;rcases List.mem_append.1 d with e | e
  · exact (c y e x (by simp)).1
  rw [List.mem_singleton.1 e]
  have g:x.end_≠0:=fun g=>ho (by unfold isOpen;simp [g]);have:=he x (by simp);omega
 refine ⟨List.pairwise_append.2 ⟨h.ends,by simp,fun y d z hz=>?_⟩,fun y d=>?_⟩
 · rw [List.mem_singleton.1 hz]
   exact ⟨f y d,.inl rfl⟩
 rcases List.mem_append.1 d with e | e
 · exact h.puts y e
 rw [List.mem_singleton.1 e];simp
theorem HOrd.tomb {K:List Gen} (h:HOrd K) (ho:isOpen K=true) {R:Int} (hM:∀ x∈K,x.end_<R):HOrd (tombK K R):=by
 obtain ⟨L,x,rfl,d⟩:=zci ho;unfold tombK;rw [zbt];obtain ⟨a,b,c⟩:=List.pairwise_append.1 h.ends;refine ⟨List.pairwise_append.2 ⟨a,by simp,fun y hy z hz=>?_⟩,fun y hy=>?_⟩
 · rw [List.mem_singleton.1 hz]
   have:=hM y (List.mem_append_left _ hy);exact ⟨(c y hy x (by simp)).1,.inr (by dsimp only;omega)⟩
 rcases List.mem_append.1 hy with e | e
 · exact h.puts y (List.mem_append_left _ e)
 rw [List.mem_singleton.1 e]
 exact h.puts x (by simp)
theorem zro {l:List Int} {R:Int} {j:Nat} (hj:j<upTo l R) (hl:j<l.length):l[j]<=R:=by
 unfold upTo at hj;have:=List.not_of_lt_findIdx hj;simpa using this
theorem zrp {l:List Int} {r:Int} {k:Nat} (hk:k<=l.length) (h:∀ j (hj:j<l.length),j<k->l[j]<=r):k<=upTo l r:=by
 unfold upTo;rcases Nat.lt_or_ge (l.findIdx fun p=>decide (r<p)) k with a | a
 · have b:(l.findIdx fun p=>decide (r<p))<l.length:=by omega
   have c:=List.findIdx_getElem (w:=b);have d:=h _ b a;simp only [decide_eq_true_eq] at c;omega
 exact a
theorem zld (l:List Int) {R r:Int} (h:R<=r):upTo l R<=upTo l r :=
 zrp (zds l R) fun _j hj hk=>Int.le_trans (zro hk hj) h
theorem zrq {l:List Int} {R r:Int} {k:Nat} (hk:k<=upTo l R) (h:R<=r):upTo (l.drop k) r=upTo l r-k:=by
 have d:k<=l.length:=Nat.le_trans hk (zds l R)
 have e:(l.take k).findIdx (fun p=>decide (r<p))=k:=by
  have:(l.take k).findIdx (fun p=>decide (r<p))=(l.take k).length:=by
   refine List.findIdx_eq_length_of_false fun p hp=>?_;obtain ⟨j,a⟩:=List.mem_iff_getElem?.1 hp;have b:=(List.getElem?_eq_some_iff.1 a).1;rw [List.length_take] at b;rw [List.getElem?_take_of_lt (by omega)] at a;have c:=zro (l:=l) (R:=R) (j:=j) (by omega) (by omega);rw [(List.getElem?_eq_some_iff.1 a).2] at c;simp;omega
  rw [this];simp;omega
 have f:upTo l r=k+upTo (l.drop k) r:=by
  conv=>lhs;rw [<-List.take_append_drop k l]
  unfold upTo;rw [List.findIdx_append,e];have:(l.take k).length=k:=(by simp;omega);rw [this,if_neg (by omega)];omega
 omega
theorem ztl {K:List Gen} {r:Int} (h:∀ y∈K,0<y.end_/\y.end_<=r):atK K r=((0,0,0),false):=by
 unfold atK
 split
 · rfl
 rename_i x hx
 have a:=List.mem_reverse.1 (List.mem_of_find?_eq_some hx);have:=h x a;rw [if_pos ⟨this.1,this.2⟩]
theorem zfc (R:Int) (x:Gen):(compG R x).end_=x.end_/\(compG R x).create=x.create:=by
 unfold compG
 split <;> exact ⟨rfl,rfl⟩
theorem zqm (R:Int) (K:List Gen) (x:Gen):compK R (K++[x])=compK R K++if endB R x then [] else [compG R x]:=by
 unfold compK;rw [List.filter_append,List.map_append]
 congr 1
 cases h:endB R x <;> simp [h]
theorem zkt {K:List Gen} (h:HOrd K) {R r:Int} (hr:R<=r):atK (compK R K) r=atK K r:=by
 have key:∀ n (K:List Gen),K.length=n->HOrd K->atK (compK R K) r=atK K r:=by
  intro n
  induction n with
  | zero =>
    intro K f _;rw [List.eq_nil_of_length_eq_zero f]
    rfl
  | succ n ih =>
    intro K f h;rcases List.eq_nil_or_concat K with rfl | ⟨L,x,rfl⟩
    · simp at f
    simp only [List.concat_eq_append] at *
    obtain ⟨a,b,c⟩:=List.pairwise_append.1 h.ends;have j:HOrd L:=⟨a,fun y hy=>h.puts y (List.mem_append_left _ hy)⟩;have e:=ih L (by simp at f;omega) j;rw [zqm,zbv]
    cases he:endB R x with
    | true =>
      simp only [if_true,List.append_nil];rw [e];unfold endB at he;simp only [Bool.and_eq_true,decide_eq_true_eq] at he
      have d:atK L r=((0,0,0),false):=ztl fun y hy=>by
       have:=c y hy x (by simp);omega
      rw [d,if_pos (show 0<x.end_/\x.end_<=r by omega)]
      split <;> rfl
    | false =>
      simp only [Bool.false_eq_true,if_false];rw [zbv,(zfc R x).1,(zfc R x).2,e];unfold compG;by_cases hn1:1<upTo x.puts R
      · rw [if_pos hn1]
        dsimp only;have o:=zld x.puts hr;have q:=zds x.puts r;have m:=zrq (l:=x.puts) (R:=R) (r:=r) (k:=upTo x.puts R-1) (by omega) hr;rw [m,if_pos (show upTo x.puts r-(upTo x.puts R-1)≠0 by omega),if_pos (show upTo x.puts r≠0 by omega),List.getElem?_drop];have g:upTo x.puts R-1+(upTo x.puts r-(upTo x.puts R-1)-1)=upTo x.puts r-1:=(by omega);have i:x.cut+((upTo x.puts R:Int)-1)+((upTo x.puts r-(upTo x.puts R-1):Nat):Int)=x.cut+(upTo x.puts r:Int):=(by omega);rw [g,i]
      rw [if_neg hn1]
 exact key K.length K rfl h
theorem zvo {K:List Gen} (h:HOrd K) {R r:Int} (hr:R<=r) (hm:(atK K r).1.2.1<=R):(atK K r).1.2.1=(atK K R).1.2.1\/(atK K r).1.2.1=0:=by
 have key:∀ n (K:List Gen),K.length=n->HOrd K->(atK K r).1.2.1<=R->(atK K r).1.2.1=(atK K R).1.2.1\/(atK K r).1.2.1=0:=by
  intro n
  induction n with
  | zero =>
    intro K f _ _;rw [List.eq_nil_of_length_eq_zero f];exact .inr rfl
  | succ n ih =>
    intro K f h hm;rcases List.eq_nil_or_concat K with rfl | ⟨L,x,rfl⟩
    · simp at f
    simp only [List.concat_eq_append] at *
    obtain ⟨a,b,c⟩:=List.pairwise_append.1 h.ends;have l:HOrd L:=⟨a,fun y hy=>h.puts y (List.mem_append_left _ hy)⟩;rw [zbv] at hm ⊢
    rw [zbv];have i:=zld x.puts hr;by_cases hu:upTo x.puts r≠0
    · rw [if_pos hu] at hm ⊢
      by_cases he:0<x.end_/\x.end_<=r
      · rw [if_pos he];exact .inr rfl
      rw [if_neg he] at hm ⊢
      dsimp only at hm ⊢
      have k:=zds x.puts r;have d:upTo x.puts r-1<x.puts.length:=(by omega);rw [List.getElem?_eq_getElem d,Option.getD_some] at hm
      have m:upTo x.puts r<=upTo x.puts R:=zrp k fun j hj hk=>by
       rcases Nat.lt_or_ge j (upTo x.puts r-1) with e | e
       · have:=List.pairwise_iff_getElem.1 (h.puts x (by simp)) j (upTo x.puts r-1) hj d e
         omega
       have:j=upTo x.puts r-1:=by omega
       subst this;exact hm
      have g:upTo x.puts R=upTo x.puts r:=(by omega);rw [g,if_pos hu,if_neg (by omega)];exact .inl rfl
    rw [if_neg hu] at hm ⊢
    rw [if_neg (by omega)];exact ih L (by simp at f;omega) l hm
 exact key K.length K rfl h hm
def compH (R:Int) (H:Hist):Hist:={ gens:=compK R H.gens,last:=H.last,kvs:=fun r=>if r<=R/\r≠(atK (compK R H.gens) R).1.2.1 then none else H.kvs r }
theorem zte {M:Int} {H:Hist} (hI:HInv M H) (h:HOrd H.gens) {R r:Int} (hr:R<=r):hadH (compH R H) r=hadH H r:=by
 unfold hadH compH;dsimp only;rw [zkt h hr,zkt h (Int.le_refl R)];by_cases hm:(atK H.gens r).1.2.1<=R
 · rcases zvo h hr hm with e | e
   · rw [if_neg fun c=>c.2 e]
   rw [e]
   split
   · rw [hI.zero]
   rfl
 rw [if_neg fun c=>hm c.1]
theorem ztd {H:Hist} (h:HOrd H.gens) {R r:Int} (hr:R<=r) (hM:H.kvs 0=none) (hn:compK R H.gens = []):hadH H r=(kv0,false):=by
 unfold hadH;rw [<-zkt h hr,hn];dsimp only [zwt];rw [hM]
 rfl
theorem zdn {R:Int} {K:List Gen} {y:Gen} (hy:y∈compK R K):∃ x∈K,y=compG R x:=by
 unfold compK at hy;obtain ⟨x,a,rfl⟩:=List.mem_map.1 hy;exact ⟨x,(List.mem_filter.1 a).1,rfl⟩
theorem zdo (R:Int) (x:Gen):∃ k,(compG R x).puts=x.puts.drop k/\(compG R x).cut=x.cut+(k:Int)/\k<=x.puts.length/\(x.puts≠[]->k<x.puts.length):=by
 have a:=zds x.puts R;unfold compG
 split
 · exact ⟨upTo x.puts R-1,rfl,by dsimp only;omega,by omega,fun _=>by omega⟩
 exact ⟨0,rfl,by simp,by omega,fun h=>List.length_pos_iff.2 h⟩
theorem HInv.comp {M:Int} {H:Hist} (h:HInv M H) (R:Int):HInv M (compH R H):=by
 refine ⟨fun y hy p hp=>?_,fun y hy=>?_,fun y hy=>?_,?_⟩
 · obtain ⟨x,a,rfl⟩:=zdn hy
   obtain ⟨k,b,_⟩:=zdo R x;rw [b] at hp;exact h.puts x a p (List.mem_of_mem_drop hp)
 · obtain ⟨x,a,rfl⟩:=zdn hy
   rw [(zfc R x).1];exact h.ends x a
 · obtain ⟨x,a,rfl⟩:=zdn hy
   obtain ⟨k,b,_,_,c⟩:=zdo R x;have:=c (h.full x a);rw [b];exact fun e=>by have:=congrArg List.length e;simp at this;omega
 show (if _ then none else H.kvs 0)=none
 split
 · rfl
 exact h.zero
theorem HOrd.comp {K:List Gen} (h:HOrd K) (R:Int):HOrd (compK R K):=by
 refine ⟨?_,fun y hy=>?_⟩
 · unfold compK
   rw [List.pairwise_map];refine List.Pairwise.imp (fun {a b} hab=>?_) (List.Pairwise.sublist List.filter_sublist h.ends);rw [(zfc R a).1,(zfc R b).1];exact hab
 obtain ⟨x,d,rfl⟩:=zdn hy
 obtain ⟨k,c,_⟩:=zdo R x;rw [c];exact List.Pairwise.sublist (List.drop_sublist _ _) (h.puts x d)
structure HMore (n:Nat) (H:Hist):Prop where
 ord:HOrd H.gens
 fin:∃ l:List Int,l.length<=n/\∀ r,H.kvs r≠none->r∈l
 cut:∀ x∈H.gens,0<=x.cut/\x.cut+x.puts.length<=n
theorem HMore.mono {n m:Nat} {H:Hist} (h:HMore n H) (hm:n<=m):HMore m H :=
 ⟨h.ord,by obtain ⟨l,a,b⟩:=h.fin;exact ⟨l,by omega,b⟩,fun x hx=>by have:=h.cut x hx;omega⟩
theorem HMore.new (n:Nat):HMore n newH:=⟨⟨List.Pairwise.nil,fun x hx=>by simp [newH] at hx⟩,⟨[],by simp,fun r hr=>absurd rfl hr⟩,fun x hx=>by simp [newH] at hx⟩
theorem HMore.put {n:Nat} {M:Int} {H:Hist} (h:HMore n H) (hI:HInv M H) (x:Kv) (hM:M<x.mod):HMore (n+1) (putH H x):=by
 refine ⟨h.ord.put (fun y hy p hp=>by have:=(hI.puts y hy p hp).2;omega) fun y hy=>(hI.ends y hy).1,?_,fun y hy=>?_⟩
 · obtain ⟨l,a,b⟩:=h.fin
   refine ⟨x.mod :: l,by simp;omega,fun r hr=>?_⟩;by_cases e:r=x.mod
   · rw [e];simp
   unfold putH at hr
   dsimp only at hr;rw [if_neg e] at hr;exact List.mem_cons_of_mem _ (b r hr)
 unfold putH putK at hy
 dsimp only at hy
 split at hy
 · obtain ⟨z,c,e | e⟩:=zdy hy
   · rw [e];have:=h.cut z c;omega
   rw [e]
   have:=h.cut z c;dsimp only;simp only [List.length_append,List.length_singleton];omega
 rcases List.mem_append.1 hy with e | e
 · have:=h.cut y e;omega
 rw [List.mem_singleton.1 e]
 simp;omega
theorem HMore.tomb {n:Nat} {M:Int} {H:Hist} (h:HMore n H) (hI:HInv M H) (ho:isOpen H.gens=true) {R:Int} (hM:M<R):HMore n (tombH H R):=by
 refine ⟨h.ord.tomb ho fun y hy=>by have:=(hI.ends y hy).2;omega,h.fin,fun y hy=>?_⟩;unfold tombH tombK at hy;dsimp only at hy;obtain ⟨z,a,e | e⟩:=zdy hy
 · rw [e];exact h.cut z a
 rw [e];exact h.cut z a
theorem HMore.comp {n:Nat} {H:Hist} (h:HMore n H) (R:Int):HMore n (compH R H):=by
 refine ⟨h.ord.comp R,?_,fun y hy=>?_⟩
 · obtain ⟨l,a,b⟩:=h.fin
   refine ⟨l,a,fun r hr=>b r ?_⟩;unfold compH at hr;dsimp only at hr
   split at hr
   · exact absurd rfl hr
   exact hr
 obtain ⟨x,f,rfl⟩:=zdn hy
 obtain ⟨k,d,c,e,_⟩:=zdo R x;have:=h.cut x f;rw [d,c,List.length_drop];omega
theorem HistOk.comp {n:Nat} {H:Hist} (h:HistOk n H) (hm:HMore n H) (hn:n<=1099511627) (R:Int):HistOk n (compH R H):=by
 refine ⟨?_,fun y hy=>?_⟩
 · show (compK R H.gens).length<=n
   unfold compK;rw [List.length_map];exact Nat.le_trans (List.length_filter_le _ _) h.len
 obtain ⟨x,a,rfl⟩:=zdn hy
 obtain ⟨k,d,c,e,_⟩:=zdo R x;have b:=h.puts x a;have f:=hm.cut x a;rw [d,c,List.length_drop];unfold top;exact ⟨by omega,by omega,by omega,fun p hp=>b.2.2.2 p (List.mem_of_mem_drop hp)⟩
def SMore (n:Nat) (S:St):Prop:=∀ i H,S.past i=some H->HMore n H
theorem SMore.mono {n m:Nat} {S:St} (h:SMore n S) (hm:n<=m):SMore m S:=fun i H hi=>(h i H hi).mono hm
theorem SMore.doS {n:Nat} {M:Int} {S:St} (h:SMore n S) (hI:SInv M S) (hM0:0<=M) (x:Ev) (h1:1<=x.kv.mod) (hlast:(getT S.T x.kv.key).2=true->∀ H,S.past (getT S.T x.kv.key).1=some H->H.last<x.kv.mod)
 (hdel:x.kind≠1->(getT S.T x.kv.key).2=true/\∀ H,S.past (getT S.T x.kv.key).1=some H->isOpen H.gens=true):SMore (n+1) (doS S x):=by
 intro i k e;change (doneS S x).past i=some k at e;unfold doneS at e;by_cases hk:x.kind=1
 · rw [if_pos hk] at e
   unfold putS at e;dsimp only at e;obtain ⟨a,b,c,d⟩:=hI.made hM0 x.kv.key
   have g:∀ j G,(madeS S x.kv.key).past j=some G->(HMore n G/\HInv G.last G):=fun j G hj=>by
    refine ⟨?_,(a.hist j G hj).1.1⟩;unfold madeS at hj
    split at hj
    · exact h j G hj
    dsimp only at hj
    split at hj
    · rw [<-Option.some.inj hj];exact HMore.new n
    exact h j G hj
   split at e
   · rw [<-Option.some.inj e]
     obtain ⟨G,f⟩:=a.has _ b;rw [c] at f
     have o:G.last<x.kv.mod:=by
      unfold madeS idS at f
      cases hg:(getT S.T x.kv.key).2 with
      | true=>rw [hg,if_pos rfl,if_pos rfl] at f;exact hlast hg G f
      | false =>
        simp only [hg,Bool.false_eq_true,if_false,if_true] at f;rw [<-Option.some.inj f]
        show (0:Int)<x.kv.mod
        omega
     rw [f,Option.getD_some];exact (g _ _ f).1.put (g _ _ f).2 x.kv o
   exact (g i k e).1.mono (by omega)
 rw [if_neg hk] at e
 obtain ⟨l,m⟩:=hdel hk;unfold tombS at e;rw [if_pos l] at e;dsimp only at e
 split at e
 · obtain ⟨G,f⟩:=hI.has _ l
   rw [f,Option.map_some] at e;rw [<-Option.some.inj e];exact ((h _ G f).tomb (hI.hist _ _ f).1.1 (m G f) (hlast l G f)).mono (by omega)
 exact (h i k e).mono (by omega)
end Go.Proofs.YtdgkdfmfoonbpaaGreat