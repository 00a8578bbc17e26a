/- Own lemmas. -/
import Derived.Test.YtdgkdfmfoonbpaaGreatR17
import Derived.Test.YtdgkdfmfoonbpaaGreatR24
import Derived.Test.YtdgkdfmfoonbpaaGreatR19
import Derived.Test.YtdgkdfmfoonbpaaGreatR13
import Derived.Test.YtdgkdfmfoonbpaaGreatR06
import Derived.Test.YtdgkdfmfoonbpaaGreatR23
namespace Go.Proofs.YtdgkdfmfoonbpaaGreat
open Go Go.Proofs Go.RowKit
set_option maxRecDepth 100000
def badB (S:St) (o:Opr):Bool:=o.kind==3&&whenE S o.rg.rev != 0
theorem zpn {S:St} {ops:List Opr} {i:Nat} {p:Opr} (hj:∀ j,j<i->∀ q,ops[j]?=some q->badB S q=false) (hp:ops[i]?=some p) (h3:badB S p=true):zcz S ops=whenE S p.rg.rev:=by
 have d:ops.find? (badB S)=some p:=by
  have e:=(List.getElem?_eq_some_iff.1 hp).1
  have c:ops=ops.take i++p :: ops.drop (i+1):=by
   have:=List.take_append_drop i ops;rw [List.drop_eq_getElem_cons e,(List.getElem?_eq_some_iff.1 hp).2] at this;exact this.symm
  rw [c,List.find?_append]
  have f:(ops.take i).find? (badB S)=none:=List.find?_eq_none.2 fun q a=>by
   obtain ⟨j,a⟩:=List.mem_iff_getElem?.1 a;have b:=(List.getElem?_eq_some_iff.1 a).1;rw [List.length_take] at b;rw [List.getElem?_take_of_lt (by omega)] at a;rw [hj j (by omega) q a];simp
  rw [f];simp [h3]
 unfold zcz;have:(fun o:Opr=>o.kind==3&&whenE S o.rg.rev != 0)=badB S:=rfl;rw [this,d]
theorem zkw {S:St} {ops:List Opr} (hj:∀ j,j<ops.length->∀ q,ops[j]?=some q->badB S q=false):zcz S ops=0:=by
 have b:ops.find? (badB S)=none:=List.find?_eq_none.2 fun q a=>by
  obtain ⟨j,a⟩:=List.mem_iff_getElem?.1 a;rw [hj j (List.getElem?_eq_some_iff.1 a).1 q a];simp
 unfold zcz;have:(fun o:Opr=>o.kind==3&&whenE S o.rg.rev != 0)=badB S:=rfl;rw [this,b]
set_option maxHeartbeats 4000000 in
theorem ztm {TA:zai} {N:Nat} (hT:TreeOk TA N) (w:World) (s:Nat) (S:St) (F:Nat->Prop) (hS:zal TA w s S F) (v:Value) (ops:List Opr) (hv:SlR w 10 opC v ops)
 (hl:ops.length<=1099511627) (hks:∀ o∈ops,o.rg.key.size<=1099511627776) (he:applyE S ops≠0) :
 Calls Tryz.prog 56 #[.pointer (some ⟨s,0,none⟩),v] w fun e w'=>e=.returned (.tuple #[.slice none 0 0,.slice none 0 0,.int .i64 (applyE S ops)])/\Fr No w w':=by
 have f:=fun W hv=>ziv W v ops hv hl hks;obtain ⟨va,V,rfl,a1,a2,r⟩:=hv.shape;have C:=H_ hv;have D:=H_ r;have T:=H_ hS;by_cases hc:checkE ops=0
 · have d:applyE S ops=zcz S ops:=by unfold applyE;rw [if_neg (by simpa using hc)]
   rw [hc] at f;rw [d] at he ⊢
   have m:=H_ f;have X:=H_ he;clear hv r hS f hc d he hks;go_enter Tryz.func56,Tryz.ntmps56
   go_wp2_with (first
    | (go_at_call 87;refine (m.out _ (C.out.alloc _)).mono ?_;rintro e w1 ⟨rfl,k⟩
       have M:Fr No w w1:=((Fr.refl No w).alloc _).trans0 k;have L:w1.heap[w.heap.size]?=some (.cells #[.pointer (some ⟨s,0,none⟩)] 52 (0,0)):=k.heap (zae _ _ _ rfl) id;have bA:w1.cell? ⟨w.heap.size,0,none⟩=some (.pointer (some ⟨s,0,none⟩)):=cellAt L 0 rfl))
   go_loopg [29] ops.length (fun g s29 wr=>∃ i:Nat,s29=.int .i64 i/\i+g=ops.length/\Hid (Fr No w1 wr)/\Hid (∀ j,j<i->∀ q,ops[j]?=some q->badB S q=false))
   case atStart=>exact ⟨0,rfl,by simp,H_ (Fr.refl No w1),H_ (by simp)⟩
   case round =>
    obtain ⟨i,rfl,hi,z,B⟩:=hrel;have l:Fr No w wr:=M.trans0 z.out;have Y:=z.out.cell0 bA;have a5:=World.block_lt_of_cell? _ _ Y
    cases gk with
    | zero=>exact absurd (zkw fun j hj=>B.out j (by omega)) X.out
    | succ g =>
      obtain ⟨gb,go,rfl⟩:=D.out (by omega);obtain ⟨p,c⟩:∃ p,ops[i]?=some p:=⟨_,List.getElem?_eq_getElem (by omega)⟩;have a:=C.out.fr0 l;have x0:=a.cell0 zaf i c rfl;have x1:=a.cell zaf i 1 c rfl;have x2:=a.cell zaf i 2 c rfl;have x3:=a.cell zaf i 3 c rfl;have x4:=a.cell zaf i 4 c rfl;have x5:=a.cell zaf i 5 c rfl;have x6:=a.cell zaf i 6 c rfl;have x7:=a.cell zaf i 7 c rfl;have x8:=a.cell zaf i 8 c rfl;have x9:=a.cell zaf i 9 c rfl;have a3:(i:Int)<(ops.length:Int):=(by omega)
      have y:∀ b,badB S p=b->(b=false->∀ j,j<i+1->∀ q,ops[j]?=some q->badB S q=false)/\(b=true->zcz S ops=whenE S p.rg.rev):=fun b hb =>
       ⟨fun h j hj q hq=>by
         by_cases hji:j=i
         · subst hji;rw [c] at hq;cases hq;rw [hb,h]
         exact B.out j (by omega) q hq,fun h=>zpn B.out c (by rw [hb,h])⟩
      have n:=H_ y;clear c a y;obtain ⟨P,⟨E,G,t,H,I,J,K⟩,Q,R⟩:=p;by_cases hk:P=3
      · subst hk
        generalize U:whenE S t=u at *;have A:=H_ U;clear U;by_cases hu0:u=0
        · subst hu0
          have x:Hid (badB S ⟨3,⟨E,G,t,H,I,J,K⟩,Q,R⟩=false):=H_ (by unfold badB;dsimp only;rw [A.out];rfl);go_wp2_with (go_at_call 77;refine (zde _ s S F ((T.out.fr0 hT l).fr0 hT ((Fr.refl No wr).alloc _)) t).mono ?_;rintro e w' ⟨rfl,rfl⟩;rw [A.out]);go_roundg g
          case rel=>exact ⟨i+1,by go_num,by omega,H_ (z.out.alloc _),H_ ((n.out _ x.out).1 rfl)⟩
          case measure=>omega
        have a4:(u==0)=false:=by simpa using hu0
        have x:Hid (badB S ⟨3,⟨E,G,t,H,I,J,K⟩,Q,R⟩=true):=H_ (by unfold badB;dsimp only;rw [A.out];simpa using hu0);go_wp2_with (go_at_call 77;refine (zde _ s S F ((T.out.fr0 hT l).fr0 hT ((Fr.refl No wr).alloc _)) t).mono ?_;rintro e w' ⟨rfl,rfl⟩;rw [A.out]);go_ret3;refine ⟨?_,l.alloc _⟩;have Z:=(n.out _ x.out).2 rfl;rw [Z]
        rfl
      have O:(P==3)=false:=by simpa using hk
      have x:Hid (badB S ⟨P,⟨E,G,t,H,I,J,K⟩,Q,R⟩=false):=H_ (by unfold badB;dsimp only;rw [O];rfl);go_wp2;go_roundg g
      case rel=>exact ⟨i+1,by go_num,by omega,H_ (z.out.alloc _),H_ ((n.out _ x.out).1 rfl)⟩
      case measure=>omega
 have d:applyE S ops=checkE ops:=by unfold applyE;rw [if_pos hc]
 rw [d] at he ⊢
 have a0:(checkE ops==0)=false:=(by simpa using hc);generalize checkE ops=u at *;have m:=H_ f;clear hv r hS f d hks;go_enter Tryz.func56,Tryz.ntmps56;go_wp2_with (go_at_call 87;refine (m.out _ (C.out.alloc _)).mono ?_;rintro e w1 ⟨rfl,k⟩);go_ret3;exact ⟨rfl,((Fr.refl No w).alloc _).trans0 k⟩
set_option maxHeartbeats 4000000 in
theorem zjf {TA:zai} {N:Nat} (hT:TreeOk TA N) {n:Nat} (hn:n<=1099511627) (w:World) (s:Nat) (S:St) (F:Nat->Prop) (hS:zal TA w s S F) (hok:StOk n S) (hN:S.T.length<=1099511627) (g:Rg)
 (hks:g.key.size<=1099511627776) (hE:rangeE S g=0) :
 Calls Tryz.prog 53 #[.pointer (some ⟨s,0,none⟩),rgV g] w fun e w'=>∃ v,e=.returned (.tuple #[v,.int .i64 (allL S g S.rev).length,.bool (moreB S g S.rev),.int .i64 0])/\SlF w' 70 6 kvC v (getL S g S.rev)/\Fr No w w'/\(∀ b,v.ownBlock=some b->w.heap.size<=b):=by
 have z:=fun W=>zdp W g hks;have G:=fun W (h:Fr No w W)=>zde W s S F (hS.fr0 hT h) g.rev;have J:=fun W (h:Fr No w W)=>zha hT hn W s S F (hS.fr0 hT h) hok hN g S.rev hks
 have H:∀ W,Fr No w W->W.cell? ⟨s,3,none⟩=some (.int .i64 S.rev):=fun W hW=>by
  obtain ⟨t,p,ev,hp,FT,FH,a,hF⟩:=hS;exact hW.cell0 (a.obj.cell 3 rfl)
 have x:askE g=0/\whenE S g.rev=0:=by
  unfold rangeE at hE;by_cases h:askE g=0
  · rw [if_neg (by simpa using h)] at hE;exact ⟨h,hE⟩
  rw [if_pos h] at hE;exact absurd hE h
 rw [x.1] at z;rw [x.2] at G;obtain ⟨f,i,j,k,l,m,o⟩:=g;generalize A:allL S ⟨f,i,j,k,l,m,o⟩ S.rev=al at *;generalize C:moreB S ⟨f,i,j,k,l,m,o⟩ S.rev=mo at *;generalize B:getL S ⟨f,i,j,k,l,m,o⟩ S.rev=gl at *;unfold rgV at *;dsimp only at *;have V:=H_ z;have HW:=H_ G;have Y:=H_ J;have X:=H_ H;clear z G J H hE x hks hS hok hN A C B;go_enter Tryz.func53,Tryz.ntmps53
 go_upto_region 8 with (first
  | (go_at_call 41;refine (V.out _).mono ?_;rintro e w1 ⟨rfl,I⟩
     have d:Fr No w w1:=((Fr.refl No w).alloc _).trans0 I;have r:w1.heap[w.heap.size]?=some (.cells #[.string f,.string i,.int .i64 j,.int .i64 k,.bool l,.bool m,.bool o] 24 (0,0)):=I.heap (zae _ _ _ rfl) id;obtain ⟨L,M,O,P,Q,R,U⟩:=cells7 r;have lx:=zac r;have y:=X.out _ d;have ly:=World.block_lt_of_cell? _ _ y)
  | (go_at_call 77;refine (HW.out _ d).mono ?_;rintro e w2 ⟨rfl,rfl⟩))
 go_region_held (fun W=>W.cell? ⟨s,3,none⟩=some (.int .i64 S.rev)/\W.cell? ⟨w.heap.size,0,none⟩=some (.string f)/\W.cell? ⟨w.heap.size,1,none⟩=some (.string i)/\W.cell? ⟨w.heap.size,2,none⟩=some (.int .i64 j) ∧
  W.cell? ⟨w.heap.size,3,none⟩=some (.int .i64 k)/\W.cell? ⟨w.heap.size,4,none⟩=some (.bool l)/\W.cell? ⟨w.heap.size,5,none⟩=some (.bool m)/\W.cell? ⟨w.heap.size,6,none⟩=some (.bool o))
  (first | exact ⟨y,L,M,O,P,Q,R,U⟩ | exact ⟨c.cell0 y,c.cell0 L,c.cell0 M,c.cell0 O,c.cell0 P,c.cell0 Q,c.cell0 R,c.cell0 U⟩)
  (first | (go_at_call 78;refine (Y.out _ d.drew).mono ?_;rintro e w3 ⟨v,rfl,E,c,q⟩;obtain ⟨va,K,rfl,a1,a2,a3⟩:=E.shape;have Z:=H_ E;have u:=H_ q;clear E q))
 go_wp2
 (try simp only [Exit.inBlock,Exit.then]);refine bodyPost_ret (zer rfl _ _ _) rfl ?_
 have D:=d.size;exact ⟨_,rfl,Z.out,d.drew.trans0 c,fun b r=>Nat.le_trans D (u.out b r)⟩
def outB (lo up:Int) (x:Ev):Bool:=decide (x.kv.mod<lo)||decide (up<x.kv.mod)
def insB (lo up:Int) (x:Ev):Bool:=!outB lo up x
theorem zlp (w:World) (x:Ev) (ra rb:Nat) (lo up:Int) (ha:w.cell? ⟨ra,0,none⟩=some (.int .i64 lo)) (hb:w.cell? ⟨rb,0,none⟩=some (.int .i64 up)) :
 Calls Tryz.prog 73 #[evV x,.pointer (some ⟨ra,0,none⟩),.pointer (some ⟨rb,0,none⟩)] w fun e w'=>e=.returned (.bool (decide (x.kv.mod<lo)||decide (up<x.kv.mod)))/\Fr No w w':=by
 obtain ⟨i,⟨j,k,l,g,m,n⟩,⟨o,q,r,c,d,f⟩⟩:=x;unfold evV;dsimp only;have b:=World.block_lt_of_cell? _ _ hb;have a:=World.block_lt_of_cell? _ _ ha;by_cases h1:g<lo
 · go_enter Tryz.func73,Tryz.ntmps73
   go_wp2;go_ret;exact ⟨by simp [],(Fr.refl No w).alloc _⟩
 go_enter Tryz.func73,Tryz.ntmps73
 go_wp2;go_ret;exact ⟨by simp;intro h;omega,(Fr.refl No w).alloc _⟩
theorem zkn {lo up:Int} {L:List Ev} {k:Nat} (h:L.findIdx (outB lo up)=k) (hk:k<L.length):(L.take (k+1)).filter (insB lo up)=L.take k:=by
 have a:∃ x,L[k]?=some x:=⟨_,List.getElem?_eq_getElem hk⟩;obtain ⟨x,a⟩:=a
 have e:outB lo up x=true:=by
  have:=(List.findIdx_eq hk).1 h;rw [(List.getElem?_eq_some_iff.1 a).2] at this;exact this.1
 rw [List.take_add_one,a,List.filter_append]
 have d:(L.take k).filter (insB lo up)=L.take k:=by
  rw [List.filter_eq_self];intro y f;obtain ⟨j,b⟩:=List.mem_iff_getElem?.1 f;have c:=(List.getElem?_eq_some_iff.1 b).1;rw [List.length_take] at c;rw [List.getElem?_take_of_lt (by omega)] at b;have:=((List.findIdx_eq hk).1 h).2 j (by omega);rw [(List.getElem?_eq_some_iff.1 b).2] at this;unfold insB;rw [this];rfl
 rw [d];simp [insB,e]
theorem znq {lo up:Int} {L:List Ev} (h:L.findIdx (outB lo up)=L.length):L.filter (insB lo up)=L:=by
 rw [List.filter_eq_self];intro y a;rw [List.findIdx_eq_length] at h;unfold insB;rw [h y a];rfl
set_option maxHeartbeats 2000000 in
theorem zjb (w:World) (v:Value) (l:List Ev) (ra rb:Nat) (lo up:Int) (hba:w.cell? ⟨ra,0,none⟩=some (.int .i64 lo)) (hb:w.cell? ⟨rb,0,none⟩=some (.int .i64 up)) (hv:SlF w 72 13 evC v l) (hl:l.length<=1099511627) :
 Calls Tryz.prog 98 #[v,.func (.func 73) #[] #[.pointer (some ⟨ra,0,none⟩),.pointer (some ⟨rb,0,none⟩)]] w fun e w'=>e=.returned (.int .i64 (idxEv (outB lo up) l))/\Fr No w w':=by
 obtain ⟨a,cap,rfl,G,H,B⟩:=hv.shape;have F:=H_ hv;clear hv;have D:=H_ B;clear B;have E:=H_ hb;clear hb;have o:=H_ hba;clear hba;go_enter Tryz.func98,Tryz.ntmps98;go_wp2
 go_loopg [8] l.length (fun g s8 wr=>∃ i:Nat,s8=.int .i64 i/\i+g=l.length/\Hid (∀ j,j<i->∀ p,l[j]?=some p->outB lo up p=false)/\Hid (Fr No w wr))
 case atStart=>exact ⟨0,rfl,by simp,H_ (by simp),H_ (Fr.refl No w)⟩
 case round =>
  obtain ⟨i,rfl,M,r,f⟩:=hrel
  cases gk with
  | zero =>
    have u:¬ (i:Int)<(l.length:Int):=(by omega);go_wp2;go_ret;refine ⟨?_,f.out⟩
    have y:l.findIdx (outB lo up)=l.length:=by
     rw [List.findIdx_eq_length];intro x c;obtain ⟨j,n,rfl⟩:=List.getElem_of_mem c;exact r.out j (by omega) _ (List.getElem?_eq_getElem n)
    unfold idxEv;rw [if_pos y]
    rfl
  | succ g =>
    obtain ⟨L,go,rfl⟩:=D.out (by omega);obtain ⟨p,c⟩:∃ p,l[i]?=some p:=⟨_,List.getElem?_eq_getElem (by omega)⟩;have b:=F.out.fr0 f.out;have N:=b.cell0 zaa i c rfl;have O:=b.cell zaa i 1 c rfl;have P:=b.cell zaa i 2 c rfl;have Q:=b.cell zaa i 3 c rfl;have R:=b.cell zaa i 4 c rfl;have S:=b.cell zaa i 5 c rfl;have T:=b.cell zaa i 6 c rfl;have U:=b.cell zaa i 7 c rfl;have V:=b.cell zaa i 8 c rfl;have W:=b.cell zaa i 9 c rfl;have I:=b.cell zaa i 10 c rfl;have J:=b.cell zaa i 11 c rfl;have K:=b.cell zaa i 12 c rfl;have u:(i:Int)<(l.length:Int):=(by omega);have d:=zlp wr p ra rb lo up (f.out.cell0 o.out) (f.out.cell0 E.out);have m:(decide (p.kv.mod<lo)||decide (up<p.kv.mod))=outB lo up p:=rfl;rw [m] at d;unfold evV at d
    have A:=H_ c;clear c b m;generalize C:outB lo up p=q at *;have z:=H_ C;clear C;cases q
    · go_wp2_with (go_at_call 73;refine d.mono ?_;rintro e w1 ⟨rfl,s⟩)
      go_roundg g
      case rel=>exact ⟨i+1,by go_num,by omega,H_ (fun j n q hq=>by
       by_cases hji:j=i
       · subst hji;rw [A.out] at hq;cases hq;exact z.out
       exact r.out j (by omega) q hq),H_ (f.out.trans0 s)⟩
      case measure=>omega
    go_wp2_with (go_at_call 73;refine d.mono ?_;rintro e w1 ⟨rfl,s⟩)
    go_ret;refine ⟨?_,f.out.trans0 s⟩
    have y:l.findIdx (outB lo up)=i:=by
     have k:i<l.length:=(by omega);rw [List.findIdx_eq k];have t:l[i]=p:=(List.getElem?_eq_some_iff.1 A.out).2;refine ⟨by rw [t];exact z.out,fun j n=>?_⟩;exact r.out j n _ (List.getElem?_eq_getElem (by omega))
    unfold idxEv;rw [y,if_neg (by omega)]
    rfl
set_option maxHeartbeats 8000000 in
theorem zmo (w:World) (v:Value) (L:List Ev) (ra rb:Nat) (lo up:Int) (hba:w.cell? ⟨ra,0,none⟩=some (.int .i64 lo)) (hb:w.cell? ⟨rb,0,none⟩=some (.int .i64 up)) (hv:SlF w 72 13 evC v L) (hna:v.ownBlock≠some ra) (hn:v.ownBlock≠some rb) (hl:L.length<=1099511627) :
 Calls Tryz.prog 71 #[v,.func (.func 73) #[] #[.pointer (some ⟨ra,0,none⟩),.pointer (some ⟨rb,0,none⟩)]] w fun e w'=>∃ v',e=.returned v'/\SlF w' 72 13 evC v' (L.filter (insB lo up))/\Fr (fun b=>v.ownBlock=some b) w w'/\(∀ b,v'.ownBlock=some b->v.ownBlock=some b):=by
 have a0:=fun W (h:Fr No w W)=>zjb W v L ra rb lo up (h.cell0 hba) (h.cell0 hb) (hv.fr0 h) hl;obtain ⟨a,cap,rfl,b5,b6,ha⟩:=hv.shape;have z:=H_ a0;clear a0;by_cases C:L.findIdx (outB lo up)=L.length
 · have s:idxEv (outB lo up) L = -1:=by unfold idxEv;rw [if_pos C]
   rw [s] at z;have S:=znq C;rw [S];have HV:=H_ hv;clear hv s C S;go_enter Tryz.func71,Tryz.ntmps71;go_wp2_with (go_at_call 98;refine (z.out _ (Fr.refl No w)).mono ?_;rintro e w1 ⟨rfl,B⟩);go_ret;exact ⟨_,rfl,HV.out.fr0 B,B.mono fun _ _ h=>h.elim,fun b h=>h⟩
 have hk:L.findIdx (outB lo up)<L.length:=Nat.lt_of_le_of_ne List.findIdx_le_length C
 have s:idxEv (outB lo up) L=(L.findIdx (outB lo up):Int):=(by unfold idxEv;rw [if_neg C]);rw [s] at z;have T:=zkn rfl hk;generalize an:L.findIdx (outB lo up)=k0 at *;obtain ⟨o,go,rfl⟩:=ha (by omega);have ao:o≠rb:=fun e=>hn (by rw [<-e];rfl);have a4:o≠ra:=fun e=>hna (by rw [<-e];rfl);have HV:=H_ hv;have HB:=H_ hb;have G:=H_ hba;have J:=H_ T;clear hv s C T an ha hb hba hn hna;have bc:((k0:Int) == -1)=false:=(by rw [beq_eq_false_iff_ne];omega);go_enter Tryz.func71,Tryz.ntmps71;go_wp2_with (go_at_call 98;refine (z.out _ (Fr.refl No w)).mono ?_;rintro e w1 ⟨rfl,B⟩)
 go_loopg [5,6] L.length (fun g s5 s6 wr=>∃ (k i:Nat) (M:List Ev),s5=.int .i64 k/\s6=.int .i64 i/\k<i/\i<=L.length/\i+g=L.length+k0+1/\k0<i/\M.length=L.length/\Hid (M.take k=(L.take i).filter (insB lo up))/\Hid (M.drop i=L.drop i) ∧
  Hid (SlF wr 72 13 evC (.slice (some ⟨o,go,none⟩) L.length cap) M)/\Hid (Fr (fun b=>b=o) w wr))
 case atStart=>exact ⟨k0,k0+1,L,rfl,by go_num,by omega,by omega,by omega,by omega,rfl,H_ J.out.symm,H_ rfl,H_ (HV.out.fr0 B),H_ (B.mono fun _ _ h=>h.elim)⟩
 case round =>
  obtain ⟨k,i,M,rfl,rfl,bd,b9,ba,aA,E,HT,HD,HS,I⟩:=hrel;by_cases hil:i<L.length
  · cases gk with
    | zero=>omega
    | succ g =>
      have Z:(i:Int)<(L.length:Int):=(by omega);have aD:(k:Int)<(L.length:Int):=(by omega);obtain ⟨x,hx⟩:∃ x,L[i]?=some x:=⟨_,List.getElem?_eq_getElem hil⟩
      have m:M[i]?=some x:=by
       have:=congrArg (fun l=>l[0]?) HD.out;simp only [List.getElem?_drop,Nat.add_zero] at this;rw [this];exact hx
      have c:SlF wr 72 13 evC (.slice (some ⟨o,go,none⟩) M.length cap) M:=(by rw [E];exact HS.out);obtain ⟨y,t⟩:∃ y,M[k]?=some y:=⟨_,List.getElem?_eq_getElem (by omega)⟩;have av:o<wr.heap.size:=c.lt o rfl;have ar:=I.out.cell HB.out (fun e=>ao e.symm);have aq:=I.out.cell G.out (fun e=>a4 e.symm);have F:=fun W (h:Fr No wr W)=>zlp W x ra rb lo up (h.cell0 aq) (h.cell0 ar);have b7:∀ j,wr.frozen? ⟨o,j,none⟩=false:=fun j=>c.free j;have a5:(decide (x.kv.mod<lo)||decide (up<x.kv.mod))=outB lo up x:=rfl;rw [a5] at F
      have a3:∀ (W:World),Fr No wr W->SlF (layEv W o (go+k * 13) x) 72 13 evC (.slice (some ⟨o,go,none⟩) L.length cap) (M.set k x):=fun (W:World) (h:Fr No wr W)=>by
       have:=zpc (c.fr0 h) k t x;rw [E] at this;exact this
      have a2:=fun (W:World) (h:Fr (fun b=>b=o) w W)=>zpd h o (go+k * 13) x rfl
      have a6:(L.take (i+1)).filter (insB lo up)=(L.take i).filter (insB lo up)++(if outB lo up x then [] else [x]):=by
       rw [List.take_add_one,hx,List.filter_append]
       congr 1
       cases hq:outB lo up x <;> simp [insB,hq]
      have R:M.drop (i+1)=L.drop (i+1):=by
       have:=congrArg (List.drop 1) HD.out
       rwa [List.drop_drop,List.drop_drop] at this
      generalize hq:outB lo up x=q at *;have z0:=c.cell0 zaa i m rfl;have u0:=c.cell0 zaa k t rfl;have z1:=c.cell zaa i 1 m rfl;have u1:=c.cell zaa k 1 t rfl;have z2:=c.cell zaa i 2 m rfl;have u2:=c.cell zaa k 2 t rfl;have z3:=c.cell zaa i 3 m rfl;have u3:=c.cell zaa k 3 t rfl;have z4:=c.cell zaa i 4 m rfl;have u4:=c.cell zaa k 4 t rfl;have z5:=c.cell zaa i 5 m rfl;have u5:=c.cell zaa k 5 t rfl;have z6:=c.cell zaa i 6 m rfl;have u6:=c.cell zaa k 6 t rfl;have z7:=c.cell zaa i 7 m rfl;have u7:=c.cell zaa k 7 t rfl;have z8:=c.cell zaa i 8 m rfl;have u8:=c.cell zaa k 8 t rfl;have z9:=c.cell zaa i 9 m rfl;have u9:=c.cell zaa k 9 t rfl;have bh:=c.cell zaa i 10 m rfl;have a8:=c.cell zaa k 10 t rfl;have bi:=c.cell zaa i 11 m rfl
      have a9:=c.cell zaa k 11 t rfl;have bj:=c.cell zaa i 12 m rfl;have aa:=c.cell zaa k 12 t rfl;have N:=H_ a3;have K:=H_ a2;have D:=H_ F;have O:=H_ a6;have H:=H_ R;have ak:=H_ c;clear a3 a2 F a6 R c hx m hq a5;obtain ⟨x0,⟨x1,x2,x3,x4,x5,x6⟩,⟨x7,x8,x9,ab,ad,ae⟩⟩:=x;unfold layEv at N K;unfold evV at D;dsimp only at *;cases q
      · go_wp2_with (go_at_call 73;refine (D.out _ ((Fr.refl No wr).alloc _)).mono ?_;rintro e n ⟨rfl,u⟩
                     have f:=u.heap (zae wr (Obj.cells #[.int .i64 x0,.string x1,.string x2,.int .i64 x3,.int .i64 x4,.int .i64 x5,.int .i64 x6,.string x7,.string x8,.int .i64 x9,.int .i64 ab,.int .i64 ad,.int .i64 ae] 72) _ rfl) id;have d:Fr No wr n:=((Fr.refl No wr).alloc _).trans0 u;have c0:n.cell? ⟨wr.heap.size,0,none⟩=some (.int .i64 x0):=cellAt f 0 rfl;have u0:=d.cell0 u0;have c1:n.cell? ⟨wr.heap.size,1,none⟩=some (.string x1):=cellAt f 1 rfl;have u1:=d.cell0 u1;have c2:n.cell? ⟨wr.heap.size,2,none⟩=some (.string x2):=cellAt f 2 rfl;have u2:=d.cell0 u2;have c3:n.cell? ⟨wr.heap.size,3,none⟩=some (.int .i64 x3):=cellAt f 3 rfl;have u3:=d.cell0 u3;have c4:n.cell? ⟨wr.heap.size,4,none⟩=some (.int .i64 x4):=cellAt f 4 rfl;have u4:=d.cell0 u4
                     have c5:n.cell? ⟨wr.heap.size,5,none⟩=some (.int .i64 x5):=cellAt f 5 rfl;have u5:=d.cell0 u5;have c6:n.cell? ⟨wr.heap.size,6,none⟩=some (.int .i64 x6):=cellAt f 6 rfl;have u6:=d.cell0 u6;have c7:n.cell? ⟨wr.heap.size,7,none⟩=some (.string x7):=cellAt f 7 rfl;have u7:=d.cell0 u7;have c8:n.cell? ⟨wr.heap.size,8,none⟩=some (.string x8):=cellAt f 8 rfl;have u8:=d.cell0 u8;have c9:n.cell? ⟨wr.heap.size,9,none⟩=some (.int .i64 x9):=cellAt f 9 rfl;have u9:=d.cell0 u9;have b0:n.cell? ⟨wr.heap.size,10,none⟩=some (.int .i64 ab):=cellAt f 10 rfl;have a8:=d.cell0 a8;have b3:n.cell? ⟨wr.heap.size,11,none⟩=some (.int .i64 ad):=cellAt f 11 rfl;have a9:=d.cell0 a9;have b4:n.cell? ⟨wr.heap.size,12,none⟩=some (.int .i64 ae):=cellAt f 12 rfl
                     have aa:=d.cell0 aa;have az:∀ j,n.frozen? ⟨o,j,none⟩=false:=fun j=>(ak.out.fr0 d).free j;have aF:o<n.heap.size:=Nat.lt_of_lt_of_le av d.size;have bf:=zac f;clear f u)
        go_roundg g
        case rel=>exact ⟨k+1,i+1,_,by go_num,by go_num,by omega,by omega,by omega,by omega,by rw [List.length_set];exact E,H_ (by rw [zop _ _ _ (by omega),O.out,HT.out];simp),H_ (by rw [zoq _ _ _ _ (by omega)];exact H.out),H_ (N.out n d),H_ (K.out n (I.out.trans0 d))⟩
        case measure=>omega
      go_wp2_with (go_at_call 73;refine (D.out _ ((Fr.refl No wr).alloc _)).mono ?_;rintro e n ⟨rfl,u⟩)
      go_roundg g
      case rel=>exact ⟨k,i+1,M,rfl,by go_num,by omega,by omega,by omega,by omega,E,H_ (by rw [O.out,HT.out];simp),H,H_ (HS.out.fr0 (((Fr.refl No wr).alloc _).trans0 u)),H_ (I.out.trans0 (((Fr.refl No wr).alloc _).trans0 u))⟩
      case measure=>omega
  have Z:¬ (i:Int)<(L.length:Int):=by omega
  have am:i=L.length:=(by omega);have al:Hid (M.take k=L.filter (insB lo up)):=H_ (by rw [HT.out,am,List.take_length]);clear HT HD z HV HB G J;have be:(k:Int)<=(L.length:Int):=(by omega);have f:(k:Int)<=(cap:Int):=(by omega);have aB:k<=cap:=(by omega);have aC:¬ cap=k:=(by omega);have c:SlF wr 72 13 evC (.slice (some ⟨o,go,none⟩) M.length cap) M:=(by rw [E];exact HS.out)
  obtain ⟨r,A,U⟩:∃ r:Array Value,wr.heap[o]?=some (.cells r 72 (0,0))/\go+L.length * 13<=r.size:=by
   rcases c.2 with ⟨C,_⟩ | ⟨g',o',ax,r,hv,hg,h2,h3,h4,h5⟩
   · cases C
   simp only [Value.slice.injEq,Option.some.injEq,Addr.mk.injEq,and_true] at hv
   obtain ⟨⟨rfl,rfl⟩,_,rfl⟩:=hv;have:L.length * 13<=cap * 13:=Nat.mul_le_mul_right _ (by omega);exact ⟨r,hg,by omega⟩
  have a1:go+k * 13+(L.length-k) * 13<=r.size:=(by omega);obtain ⟨w3,aE,X,Y⟩:=zep (P:=Tryz.prog) wr 41 72 0 _ Tryz.underlying41 zero73 (by decide) o (go+k * 13) (L.length-k) (cap-k) r 72 A (by exact a1);have V:Fr (fun b=>b=o) wr w3:=(Fr.refl _ wr).grown Y fun j hj=>.inl (by simpa using hj.symm);have Q:=SlF.cleared zaa c k (by omega) r A (Builtin.zeroCells zv73.cells (L.length-k)).toList (by rw [zbl,E];rfl) (by rw [E];exact X);have ah:=H_ Q;clear c Q X Y A U a1;go_wp2;go_ret;exact ⟨_,rfl,by rw [<-al.out];exact ah.out,(I.out.trans V fun _ _ h=>h).mono fun b _ h=>by rw [h];rfl,fun b h=>h⟩
def zez (S:St) (a b:Int):Int:=if a<1\/b<a then 1 else if S.rev<b then 33 else if a<S.mark then 32 else 0
set_option maxHeartbeats 4000000 in
theorem zcy {TA:zai} {N:Nat} (_hT:TreeOk TA N) (w:World) (s:Nat) (S:St) (F:Nat->Prop) (hS:zal TA w s S F) (hev:S.events.length<=1099511627) (hne:1<=S.rev->0<S.events.length) (a b:Int) :
 Calls Tryz.prog 42 #[.pointer (some ⟨s,0,none⟩),.int .i64 a,.int .i64 b] w fun e w'=>∃ v,e=.returned (.tuple #[v,.int .i64 (zez S a b)])/\SlF w' 72 13 evC v (if zez S a b=0 then S.events.filter (insB a b) else [])/\Fr No w w'/\(∀ k,v.ownBlock=some k->w.heap.size<=k):=by
 obtain ⟨t,p,ev,hp,FT,FH,A,hF⟩:=hS;have R:=A.obj.cell 3 rfl;have Z:=A.obj.cell 4 rfl;have c5:=A.obj.cell 5 rfl;have Y:=A.obj.lt;have o:=A.events;obtain ⟨ea,a3,rfl,a8,a9,V⟩:=o.shape;have O:=H_ o;clear A hF o V;unfold zez;by_cases h1:a<1
 · rw [if_pos (.inl h1)]
   rw [if_neg (by decide)];go_enter Tryz.func42,Tryz.ntmps42;go_wp2
   go_ret2
   exact ⟨_,rfl,SlF.nil _ _ _ _,((Fr.refl No w).alloc _).alloc _,fun k hk=>by simp [Value.ownBlock] at hk⟩
 by_cases h2:b<a
 · rw [if_pos (.inr h2)]
   rw [if_neg (by decide)];go_enter Tryz.func42,Tryz.ntmps42;go_wp2
   go_ret2
   exact ⟨_,rfl,SlF.nil _ _ _ _,((Fr.refl No w).alloc _).alloc _,fun k hk=>by simp [Value.ownBlock] at hk⟩
 rw [if_neg (by omega)]
 have c:Fr No w ((w.alloc (Obj.cells #[.int .i64 a] 3)).alloc (Obj.cells #[.int .i64 b] 3)):=((Fr.refl No w).alloc _).alloc _;have d:((w.alloc (Obj.cells #[.int .i64 a] 3)).alloc (Obj.cells #[.int .i64 b] 3)).heap[w.heap.size]?=some (.cells #[.int .i64 a] 3 (0,0)):=zaq (zae _ _ _ rfl) _;have f:((w.alloc (Obj.cells #[.int .i64 a] 3)).alloc (Obj.cells #[.int .i64 b] 3)).heap[w.heap.size+1]?=some (.cells #[.int .i64 b] 3 (0,0)):=zae _ _ _ (by simp);by_cases h3:S.rev<b
 · rw [if_pos h3]
   rw [if_neg (by decide)];go_enter Tryz.func42,Tryz.ntmps42;go_upto_region 5 with fail;have L:=c.cell0 R;have x:((w.alloc (Obj.cells #[.int .i64 a] 3)).alloc (Obj.cells #[.int .i64 b] 3)).cell? ⟨w.heap.size,0,none⟩=some (.int .i64 a):=(by unfold World.cell?;dsimp only;rw [d];rfl);have I:((w.alloc (Obj.cells #[.int .i64 a] 3)).alloc (Obj.cells #[.int .i64 b] 3)).cell? ⟨w.heap.size+1,0,none⟩=some (.int .i64 b):=(by unfold World.cell?;dsimp only;rw [f];rfl);have lb:=zac f;have M:=zac d;have m:s<((w.alloc (Obj.cells #[.int .i64 a] 3)).alloc (Obj.cells #[.int .i64 b] 3)).heap.size:=Nat.lt_of_lt_of_le Y c.size;generalize (w.alloc (Obj.cells #[.int .i64 a] 3)).alloc (Obj.cells #[.int .i64 b] 3)=i at *
   go_quiet (fail)
   have j:=Fr.drewN No i nq;generalize i.drewN nq=n at *;go_wp2
   go_ret2
   exact ⟨_,rfl,SlF.nil _ _ _ _,c.trans0 j,fun k hk=>by simp [Value.ownBlock] at hk⟩
 rw [if_neg h3]
 by_cases h4:a<S.mark
 · rw [if_pos h4]
   rw [if_neg (by decide)];go_enter Tryz.func42,Tryz.ntmps42;go_upto_region 5 with fail;have L:=c.cell0 R;have z:=c.cell0 Z;have x:((w.alloc (Obj.cells #[.int .i64 a] 3)).alloc (Obj.cells #[.int .i64 b] 3)).cell? ⟨w.heap.size,0,none⟩=some (.int .i64 a):=(by unfold World.cell?;dsimp only;rw [d];rfl);have I:((w.alloc (Obj.cells #[.int .i64 a] 3)).alloc (Obj.cells #[.int .i64 b] 3)).cell? ⟨w.heap.size+1,0,none⟩=some (.int .i64 b):=(by unfold World.cell?;dsimp only;rw [f];rfl);have lb:=zac f;have M:=zac d;have m:s<((w.alloc (Obj.cells #[.int .i64 a] 3)).alloc (Obj.cells #[.int .i64 b] 3)).heap.size:=Nat.lt_of_lt_of_le Y c.size;generalize (w.alloc (Obj.cells #[.int .i64 a] 3)).alloc (Obj.cells #[.int .i64 b] 3)=i at *
   go_quiet (fail)
   have j:=Fr.drewN No i nq;have e4:=j.cell0 z;have u:=j.cell0 x;have G:s<(i.drewN nq).heap.size:=m;have X:w.heap.size<(i.drewN nq).heap.size:=M;generalize i.drewN nq=n at *;clear x I L z;go_upto_region 7 with fail
   go_quiet (fail)
   have g:=Fr.drewN No n nq;generalize n.drewN nq=y at *;go_wp2
   go_ret2
   exact ⟨_,rfl,SlF.nil _ _ _ _,(c.trans0 j).trans0 g,fun k hk=>by simp [Value.ownBlock] at hk⟩
 rw [if_neg h4]
 rw [if_pos rfl];have aa:∀ (fn:Fn) (first cap:Array Value) (w:World),(Instr.makeFunc fn first cap).run Tryz.prog w=.ok (.func fn first cap) w:=fun _ _ _ _=>rfl;go_enter Tryz.func42,Tryz.ntmps42;go_upto_region 5 with fail;have L:=c.cell0 R;have z:=c.cell0 Z;have x:((w.alloc (Obj.cells #[.int .i64 a] 3)).alloc (Obj.cells #[.int .i64 b] 3)).cell? ⟨w.heap.size,0,none⟩=some (.int .i64 a):=(by unfold World.cell?;dsimp only;rw [d];rfl);have I:((w.alloc (Obj.cells #[.int .i64 a] 3)).alloc (Obj.cells #[.int .i64 b] 3)).cell? ⟨w.heap.size+1,0,none⟩=some (.int .i64 b):=(by unfold World.cell?;dsimp only;rw [f];rfl);have lb:=zac f;have M:=zac d;have m:s<((w.alloc (Obj.cells #[.int .i64 a] 3)).alloc (Obj.cells #[.int .i64 b] 3)).heap.size:=Nat.lt_of_lt_of_le Y c.size
 generalize (w.alloc (Obj.cells #[.int .i64 a] 3)).alloc (Obj.cells #[.int .i64 b] 3)=i at *
 go_quiet (fail)
 have j:=Fr.drewN No i nq;have e4:=j.cell0 z;have u:=j.cell0 x;have J:=j.cell0 I;have G:s<(i.drewN nq).heap.size:=m;have X:w.heap.size<(i.drewN nq).heap.size:=M;have q:=c.trans0 j;generalize i.drewN nq=n at *;clear x I L z;go_upto_region 7 with fail
 go_quiet (fail)
 have g:=Fr.drewN No n nq;have e5:=(q.trans0 g).cell0 c5;have H:=g.cell0 u;have K:=g.cell0 J;have ad:s<(n.drewN nq).heap.size:=G;have l:=q.trans0 g;have ab:=l.size;have E:=O.out.fr0 l;generalize n.drewN nq=y at *;have Q:=H_ E;have P:=H_ l;have D:0<S.events.length:=hne (by omega);clear u J e4 E q l j g d f c
 go_wp2_with (first
  | (go_at_call 72;refine (zgi y _ S.events Q.out D hev).mono ?_;rintro e w4 ⟨cg,co,a0,rfl,T,r,a7⟩)
  | (go_at_call 71
     have a4:w.heap.size<y.heap.size:=World.block_lt_of_cell? _ _ H;have a5:w.heap.size+1<y.heap.size:=World.block_lt_of_cell? _ _ K;refine (zmo w4 _ S.events w.heap.size (w.heap.size+1) a b (r.cell0 H) (r.cell0 K) T (fun e=>by simp [Value.ownBlock] at e;omega) (fun e=>by simp [Value.ownBlock] at e;omega) hev).mono ?_;rintro e w5 ⟨dv,rfl,B,W,U⟩;obtain ⟨da,a1,rfl,_,_,_⟩:=B.shape;have C:Fr No y w5:=r.trans W fun b hb h=>by simp [Value.ownBlock] at h;omega))
 go_ret2
 exact ⟨_,rfl,B,P.out.trans0 C,fun k hk=>by have:=U k hk;simp [Value.ownBlock] at this;omega⟩
def zbg (S:St) (rev:Int):Int:=if S.rev<rev then 33 else if rev<=S.mark then 32 else 0
set_option maxHeartbeats 4000000 in
theorem zok {TA:zai} (w:World) (s:Nat) (S:St) (F:Nat->Prop) (hS:zal TA w s S F) (rev:Int) (hE:zbg S rev≠0) :
 Calls Tryz.prog 54 #[.pointer (some ⟨s,0,none⟩),.int .i64 rev] w fun e w'=>e=.returned (.int .i64 (zbg S rev))/\Fr No w w':=by
 obtain ⟨t,p,B,C,y,x,a,hF⟩:=hS;have m:=a.obj.cell 3 rfl;have r:=a.obj.cell 4 rfl;have q:=a.obj.lt;clear a hF;unfold zbg at *;have c:=zae w (Obj.cells #[.int .i64 rev] 3) _ rfl;have b:Fr No w (w.alloc (Obj.cells #[.int .i64 rev] 3)):=(Fr.refl No w).alloc _;by_cases h1:S.rev<rev
 · rw [if_pos h1]
   clear hE;go_enter Tryz.func54,Tryz.ntmps54;go_upto_region 3 with fail;generalize w.alloc (Obj.cells #[.int .i64 rev] 3)=d at c b ⊢
   have l:d.cell? ⟨w.heap.size,0,none⟩=some (.int .i64 rev):=cellAt c 0 rfl;have n:=b.cell0 m;have lb:=zac c;have i:s<d.heap.size:=Nat.lt_of_lt_of_le q b.size
   go_quiet (fail)
   have f:=Fr.drewN No d nq;have g:Fr No w (d.drewN nq):=b.trans0 f;generalize d.drewN nq=k at *;go_wp2;go_ret;exact ⟨rfl,g⟩
 rw [if_neg h1] at hE ⊢
 by_cases h2:rev<=S.mark
 · rw [if_pos h2]
   clear hE;go_enter Tryz.func54,Tryz.ntmps54;go_upto_region 3 with fail;generalize w.alloc (Obj.cells #[.int .i64 rev] 3)=d at c b ⊢
   have l:d.cell? ⟨w.heap.size,0,none⟩=some (.int .i64 rev):=cellAt c 0 rfl;have n:=b.cell0 m;have o:=b.cell0 r;have lb:=zac c;have i:s<d.heap.size:=Nat.lt_of_lt_of_le q b.size
   go_quiet (fail)
   have f:=Fr.drewN No d nq;have b1:=f.cell0 l;have A:=f.cell0 o;have u:w.heap.size<(d.drewN nq).heap.size:=lb;have v:s<(d.drewN nq).heap.size:=i;have g:Fr No w (d.drewN nq):=b.trans0 f;generalize d.drewN nq=k at *;clear l n o lb i f b c;go_upto_region 5 with fail
   go_quiet (fail)
   have f:=Fr.drewN No k nq;have j:Fr No w (k.drewN nq):=g.trans0 f;generalize k.drewN nq=z at j f ⊢
   go_wp2;go_ret;exact ⟨rfl,j⟩
 exact absurd (if_neg h2) hE
def kindN (n:Int):Int:=(n.tmod 8+8).tmod 8
theorem zea (n:Int):0<=kindN n/\kindN n<=7:=by
 unfold kindN;have b:=Int.tmod_lt_of_pos n (show (0:Int)<8 by decide);have c:=Int.lt_tmod_of_pos n (show (0:Int)<8 by decide);have d:=Int.tmod_nonneg (a:=n.tmod 8+8) 8 (by omega);have e:=Int.tmod_lt_of_pos (n.tmod 8+8) (show (0:Int)<8 by decide);omega
theorem zrf (w:World) (q:Cal×List Opr×List ByteArray):Calls Tryz.prog 52 #[.agg (calC q).toArray] w fun e w'=>e=.returned (.int .i64 (kindN q.1.kind))/\Fr No w w':=by
 obtain ⟨⟨a,o,⟨d,f,g,i,j,k,l⟩,r,s,t⟩,c,b⟩:=q;unfold calC rgC;dsimp only;unfold kindN;have m:=Int.tmod_lt_of_pos a (show (0:Int)<8 by decide);have n:=Int.lt_tmod_of_pos a (show (0:Int)<8 by decide);go_enter Tryz.func52,Tryz.ntmps52;go_wp2;go_ret;exact ⟨by rw [Int.tmod_eq_emod_of_nonneg (show 0<=a.tmod 8+8 by omega)];rfl,(Fr.refl No w).alloc _⟩
end Go.Proofs.YtdgkdfmfoonbpaaGreat