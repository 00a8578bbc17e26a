/- Own lemmas. -/
import Derived.Test.YthljnnjpmdgkoaaGreatK19
import Derived.Test.YthljnnjpmdgkoaaGreatK13
import Derived.Test.YthljnnjpmdgkoaaGreatK06
import Derived.Test.YthljnnjpmdgkoaaGreatK23
import Derived.Test.YthljnnjpmdgkoaaGreatK24
import Derived.Test.YthljnnjpmdgkoaaGreatK22
import Derived.Test.YthljnnjpmdgkoaaGreatK25
namespace Go.Proofs.YthljnnjpmdgkoaaGreat
open Go Go.Proofs Go.RowKit
set_option maxRecDepth 100000
def outB (lo up:Int) (x:Ev):Bool:=decide (x.kv.mod<lo)||decide (up<x.kv.mod)
def insB (lo up:Int) (x:Ev):Bool:=!outB lo up x
theorem znk (w:World) (x:Ev) (ra rb:Nat) (lo up:Int) (ha:w.cell? ⟨ra,0,none⟩=some (.int .i64 lo)) (hb:w.cell? ⟨rb,0,none⟩=some (.int .i64 up)) :
 Calls Tryz.prog 100 #[evV x,.pointer (some ⟨ra,0,none⟩),.pointer (some ⟨rb,0,none⟩)] w fun e w'=>e=.returned (.bool (decide (x.kv.mod<lo)||decide (up<x.kv.mod)))/\Fr No w w':=by
 obtain ⟨q,⟨n,l,o,f,i,k⟩,⟨j,p,m,g,d,c⟩⟩:=x;unfold evV;dsimp only;have b:=World.block_lt_of_cell? _ _ hb;have a:=World.block_lt_of_cell? _ _ ha;by_cases h1:f<lo
 · go_enter Tryz.func100,Tryz.ntmps100
   go_wp2;go_ret;exact ⟨by simp [],(Fr.refl No w).alloc _⟩
 go_enter Tryz.func100,Tryz.ntmps100
 go_wp2;go_ret;exact ⟨by simp;intro h;omega,(Fr.refl No w).alloc _⟩
theorem zme {lo up:Int} {L:List Ev} {k:Nat} (h:L.findIdx (outB lo up)=k) (hk:k<L.length):(L.take (k+1)).filter (insB lo up)=L.take k:=by
 have a:∃ x,L[k]?=some x:=⟨_,List.getElem?_eq_getElem hk⟩;obtain ⟨x,a⟩:=a
 have f:outB lo up x=true:=by
  have:=(List.findIdx_eq hk).1 h;rw [(List.getElem?_eq_some_iff.1 a).2] at this;exact this.1
 rw [List.take_add_one,a,List.filter_append]
 have d:(L.take k).filter (insB lo up)=L.take k:=by
  rw [List.filter_eq_self];intro y e;obtain ⟨j,b⟩:=List.mem_iff_getElem?.1 e;have c:=(List.getElem?_eq_some_iff.1 b).1;rw [List.length_take] at c;rw [List.getElem?_take_of_lt (by omega)] at b;have:=((List.findIdx_eq hk).1 h).2 j (by omega);rw [(List.getElem?_eq_some_iff.1 b).2] at this;unfold insB;rw [this];rfl
 rw [d];simp [insB,f]
theorem zpv {lo up:Int} {L:List Ev} (h:L.findIdx (outB lo up)=L.length):L.filter (insB lo up)=L:=by
 rw [List.filter_eq_self];intro y a;rw [List.findIdx_eq_length] at h;unfold insB;rw [h y a];rfl
set_option maxHeartbeats 2000000 in
theorem zkk (w:World) (v:Value) (l:List Ev) (ra rb:Nat) (lo up:Int) (hba:w.cell? ⟨ra,0,none⟩=some (.int .i64 lo)) (hb:w.cell? ⟨rb,0,none⟩=some (.int .i64 up)) (hv:SlF w 101 13 evC v l) (hl:l.length<=1099511627) :
 Calls Tryz.prog 144 #[v,.func (.func 100) #[] #[.pointer (some ⟨ra,0,none⟩),.pointer (some ⟨rb,0,none⟩)]] w fun e w'=>e=.returned (.int .i64 (idxEv (outB lo up) l))/\Fr No w w':=by
 obtain ⟨a,cap,rfl,D,J,B⟩:=hv.shape;have E:=H_ hv;clear hv;have I:=H_ B;clear B;have F:=H_ hb;clear hb;have r:=H_ hba;clear hba;go_enter Tryz.func144,Tryz.ntmps144;go_wp2
 go_loopg [8] l.length (fun g s8 wr=>∃ i:Nat,s8=.int .i64 i/\i+g=l.length/\Hid (∀ j,j<i->∀ p,l[j]?=some p->outB lo up p=false)/\Hid (Fr No w wr))
 case atStart=>exact ⟨0,rfl,by simp,H_ (by simp),H_ (Fr.refl No w)⟩
 case round =>
  obtain ⟨i,rfl,W,s,f⟩:=hrel
  cases gk with
  | zero =>
    have o:¬ (i:Int)<(l.length:Int):=(by omega);go_wp2;go_ret;refine ⟨?_,f.out⟩
    have u:l.findIdx (outB lo up)=l.length:=by
     rw [List.findIdx_eq_length];intro x c;obtain ⟨j,n,rfl⟩:=List.getElem_of_mem c;exact s.out j (by omega) _ (List.getElem?_eq_getElem n)
    unfold idxEv;rw [if_pos u]
    rfl
  | succ g =>
    obtain ⟨S,go,rfl⟩:=I.out (by omega);obtain ⟨p,c⟩:∃ p,l[i]?=some p:=⟨_,List.getElem?_eq_getElem (by omega)⟩;have b:=E.out.fr0 f.out;have T:=b.cell0 zac i c rfl;have Q:=b.cell zac i 1 c rfl;have N:=b.cell zac i 2 c rfl;have R:=b.cell zac i 3 c rfl;have U:=b.cell zac i 4 c rfl;have V:=b.cell zac i 5 c rfl;have P:=b.cell zac i 6 c rfl;have L:=b.cell zac i 7 c rfl;have O:=b.cell zac i 8 c rfl;have M:=b.cell zac i 9 c rfl;have G:=b.cell zac i 10 c rfl;have K:=b.cell zac i 11 c rfl;have H:=b.cell zac i 12 c rfl;have o:(i:Int)<(l.length:Int):=(by omega);have d:=znk wr p ra rb lo up (f.out.cell0 r.out) (f.out.cell0 F.out);have m:(decide (p.kv.mod<lo)||decide (up<p.kv.mod))=outB lo up p:=rfl;rw [m] at d;unfold evV at d
    have z:=H_ c;clear c b m;generalize C:outB lo up p=q at *;have A:=H_ C;clear C;cases q
    · go_wp2_with (go_at_call 100;refine d.mono ?_;rintro e w1 ⟨rfl,y⟩)
      go_roundg g
      case rel=>exact ⟨i+1,by go_num,by omega,H_ (fun j n q hq=>by
       by_cases hji:j=i
       · subst hji;rw [z.out] at hq;cases hq;exact A.out
       exact s.out j (by omega) q hq),H_ (f.out.trans0 y)⟩
      case measure=>omega
    go_wp2_with (go_at_call 100;refine d.mono ?_;rintro e w1 ⟨rfl,y⟩)
    go_ret;refine ⟨?_,f.out.trans0 y⟩
    have u:l.findIdx (outB lo up)=i:=by
     have k:i<l.length:=(by omega);rw [List.findIdx_eq k];have t:l[i]=p:=(List.getElem?_eq_some_iff.1 z.out).2;refine ⟨by rw [t];exact A.out,fun j n=>?_⟩;exact s.out j n _ (List.getElem?_eq_getElem (by omega))
    unfold idxEv;rw [u,if_neg (by omega)]
    rfl
set_option maxHeartbeats 8000000 in
theorem zoi (w:World) (v:Value) (L:List Ev) (ra rb:Nat) (lo up:Int) (hba:w.cell? ⟨ra,0,none⟩=some (.int .i64 lo)) (hb:w.cell? ⟨rb,0,none⟩=some (.int .i64 up)) (hv:SlF w 101 13 evC v L) (hna:v.ownBlock≠some ra) (hn:v.ownBlock≠some rb) (hl:L.length<=1099511627) :
 Calls Tryz.prog 98 #[v,.func (.func 100) #[] #[.pointer (some ⟨ra,0,none⟩),.pointer (some ⟨rb,0,none⟩)]] w fun e w'=>∃ v',e=.returned v'/\SlF w' 101 13 evC v' (L.filter (insB lo up))/\Fr (fun b=>v.ownBlock=some b) w w'/\(∀ b,v'.ownBlock=some b->v.ownBlock=some b):=by
 have Q:=fun W (h:Fr No w W)=>zkk W v L ra rb lo up (h.cell0 hba) (h.cell0 hb) (hv.fr0 h) hl;obtain ⟨a,cap,rfl,b3,bc,ha⟩:=hv.shape;have z:=H_ Q;clear Q;by_cases B:L.findIdx (outB lo up)=L.length
 · have p:idxEv (outB lo up) L = -1:=by unfold idxEv;rw [if_pos B]
   rw [p] at z;have O:=zpv B;rw [O];have HV:=H_ hv;clear hv p B O;go_enter Tryz.func98,Tryz.ntmps98;go_wp2_with (go_at_call 144;refine (z.out _ (Fr.refl No w)).mono ?_;rintro e w1 ⟨rfl,u⟩);go_ret;exact ⟨_,rfl,HV.out.fr0 u,u.mono fun _ _ h=>h.elim,fun b h=>h⟩
 have hk:L.findIdx (outB lo up)<L.length:=Nat.lt_of_le_of_ne List.findIdx_le_length B
 have p:idxEv (outB lo up) L=(L.findIdx (outB lo up):Int):=(by unfold idxEv;rw [if_neg B]);rw [p] at z;have a8:=zme rfl hk;generalize ai:L.findIdx (outB lo up)=k0 at *;obtain ⟨o,go,rfl⟩:=ha (by omega);have ag:o≠rb:=fun e=>hn (by rw [<-e];rfl);have a6:o≠ra:=fun e=>hna (by rw [<-e];rfl);have HV:=H_ hv;have HB:=H_ hb;have F:=H_ hba;have R:=H_ a8;clear hv p B a8 ai ha hb hba hn hna;have bg:((k0:Int) == -1)=false:=(by rw [beq_eq_false_iff_ne];omega);go_enter Tryz.func98,Tryz.ntmps98;go_wp2_with (go_at_call 144;refine (z.out _ (Fr.refl No w)).mono ?_;rintro e w1 ⟨rfl,u⟩)
 go_loopg [5,6] L.length (fun g s5 s6 wr=>∃ (k i:Nat) (M:List Ev),s5=.int .i64 k/\s6=.int .i64 i/\k<i/\i<=L.length/\i+g=L.length+k0+1/\k0<i/\M.length=L.length/\Hid (M.take k=(L.take i).filter (insB lo up))/\Hid (M.drop i=L.drop i) ∧
  Hid (SlF wr 101 13 evC (.slice (some ⟨o,go,none⟩) L.length cap) M)/\Hid (Fr (fun b=>b=o) w wr))
 case atStart=>exact ⟨k0,k0+1,L,rfl,by go_num,by omega,by omega,by omega,by omega,rfl,H_ R.out.symm,H_ rfl,H_ (HV.out.fr0 u),H_ (u.mono fun _ _ h=>h.elim)⟩
 case round =>
  obtain ⟨k,i,M,rfl,rfl,b7,aZ,b0,aS,D,HT,HD,HS,S⟩:=hrel;by_cases hil:i<L.length
  · cases gk with
    | zero=>omega
    | succ g =>
      have Z:(i:Int)<(L.length:Int):=(by omega);have aQ:(k:Int)<(L.length:Int):=(by omega);obtain ⟨x,hx⟩:∃ x,L[i]?=some x:=⟨_,List.getElem?_eq_getElem hil⟩
      have m:M[i]?=some x:=by
       have:=congrArg (fun l=>l[0]?) HD.out;simp only [List.getElem?_drop,Nat.add_zero] at this;rw [this];exact hx
      have c:SlF wr 101 13 evC (.slice (some ⟨o,go,none⟩) M.length cap) M:=(by rw [D];exact HS.out);obtain ⟨y,s⟩:∃ y,M[k]?=some y:=⟨_,List.getElem?_eq_getElem (by omega)⟩;have ao:o<wr.heap.size:=c.lt o rfl;have aq:=S.out.cell HB.out (fun e=>ag e.symm);have ak:=S.out.cell F.out (fun e=>a6 e.symm);have C:=fun W (h:Fr No wr W)=>znk W x ra rb lo up (h.cell0 ak) (h.cell0 aq);have b8:∀ j,wr.frozen? ⟨o,j,none⟩=false:=fun j=>c.free j;have a0:(decide (x.kv.mod<lo)||decide (up<x.kv.mod))=outB lo up x:=rfl;rw [a0] at C
      have a4:∀ (W:World),Fr No wr W->SlF (layEv W o (go+k * 13) x) 101 13 evC (.slice (some ⟨o,go,none⟩) L.length cap) (M.set k x):=fun (W:World) (h:Fr No wr W)=>by
       have:=zrk (c.fr0 h) k s x;rw [D] at this;exact this
      have a5:=fun (W:World) (h:Fr (fun b=>b=o) w W)=>zrl h o (go+k * 13) x rfl
      have X:(L.take (i+1)).filter (insB lo up)=(L.take i).filter (insB lo up)++(if outB lo up x then [] else [x]):=by
       rw [List.take_add_one,hx,List.filter_append]
       congr 1
       cases hq:outB lo up x <;> simp [insB,hq]
      have a7:M.drop (i+1)=L.drop (i+1):=by
       have:=congrArg (List.drop 1) HD.out
       rwa [List.drop_drop,List.drop_drop] at this
      generalize hq:outB lo up x=q at *;have z0:=c.cell0 zac i m rfl;have u0:=c.cell0 zac k s rfl;have z1:=c.cell zac i 1 m rfl;have u1:=c.cell zac k 1 s rfl;have z2:=c.cell zac i 2 m rfl;have u2:=c.cell zac k 2 s rfl;have z3:=c.cell zac i 3 m rfl;have u3:=c.cell zac k 3 s rfl;have z4:=c.cell zac i 4 m rfl;have u4:=c.cell zac k 4 s rfl;have z5:=c.cell zac i 5 m rfl;have u5:=c.cell zac k 5 s rfl;have z6:=c.cell zac i 6 m rfl;have u6:=c.cell zac k 6 s rfl;have z7:=c.cell zac i 7 m rfl;have u7:=c.cell zac k 7 s rfl;have z8:=c.cell zac i 8 m rfl;have u8:=c.cell zac k 8 s rfl;have z9:=c.cell zac i 9 m rfl;have u9:=c.cell zac k 9 s rfl;have be:=c.cell zac i 10 m rfl;have G:=c.cell zac k 10 s rfl;have b5:=c.cell zac i 11 m rfl
      have ab:=c.cell zac k 11 s rfl;have bi:=c.cell zac i 12 m rfl;have Y:=c.cell zac k 12 s rfl;have a2:=H_ a4;have a3:=H_ a5;have E:=H_ C;have J:=H_ X;have K:=H_ a7;have aj:=H_ c;clear a4 a5 C X a7 c hx m hq a0;obtain ⟨x0,⟨x1,x2,x3,x4,x5,x6⟩,⟨x7,x8,x9,H,U,I⟩⟩:=x;unfold layEv at a2 a3;unfold evV at E;dsimp only at *;cases q
      · go_wp2_with (go_at_call 100;refine (E.out _ ((Fr.refl No wr).alloc _)).mono ?_;rintro e n ⟨rfl,t⟩
                     have f:=t.heap (zad wr (Obj.cells #[.int .i64 x0,.string x1,.string x2,.int .i64 x3,.int .i64 x4,.int .i64 x5,.int .i64 x6,.string x7,.string x8,.int .i64 x9,.int .i64 H,.int .i64 U,.int .i64 I] 101) _ rfl) id;have d:Fr No wr n:=((Fr.refl No wr).alloc _).trans0 t;have c0:n.cell? ⟨wr.heap.size,0,none⟩=some (.int .i64 x0):=cellAt f 0 rfl;have u0:=d.cell0 u0;have c1:n.cell? ⟨wr.heap.size,1,none⟩=some (.string x1):=cellAt f 1 rfl;have u1:=d.cell0 u1;have c2:n.cell? ⟨wr.heap.size,2,none⟩=some (.string x2):=cellAt f 2 rfl;have u2:=d.cell0 u2;have c3:n.cell? ⟨wr.heap.size,3,none⟩=some (.int .i64 x3):=cellAt f 3 rfl;have u3:=d.cell0 u3;have c4:n.cell? ⟨wr.heap.size,4,none⟩=some (.int .i64 x4):=cellAt f 4 rfl;have u4:=d.cell0 u4
                     have c5:n.cell? ⟨wr.heap.size,5,none⟩=some (.int .i64 x5):=cellAt f 5 rfl;have u5:=d.cell0 u5;have c6:n.cell? ⟨wr.heap.size,6,none⟩=some (.int .i64 x6):=cellAt f 6 rfl;have u6:=d.cell0 u6;have c7:n.cell? ⟨wr.heap.size,7,none⟩=some (.string x7):=cellAt f 7 rfl;have u7:=d.cell0 u7;have c8:n.cell? ⟨wr.heap.size,8,none⟩=some (.string x8):=cellAt f 8 rfl;have u8:=d.cell0 u8;have c9:n.cell? ⟨wr.heap.size,9,none⟩=some (.int .i64 x9):=cellAt f 9 rfl;have u9:=d.cell0 u9;have bb:n.cell? ⟨wr.heap.size,10,none⟩=some (.int .i64 H):=cellAt f 10 rfl;have G:=d.cell0 G;have b9:n.cell? ⟨wr.heap.size,11,none⟩=some (.int .i64 U):=cellAt f 11 rfl;have ab:=d.cell0 ab;have bf:n.cell? ⟨wr.heap.size,12,none⟩=some (.int .i64 I):=cellAt f 12 rfl
                     have Y:=d.cell0 Y;have ay:∀ j,n.frozen? ⟨o,j,none⟩=false:=fun j=>(aj.out.fr0 d).free j;have aJ:o<n.heap.size:=Nat.lt_of_lt_of_le ao d.size;have b4:=zaa f;clear f t)
        go_roundg g
        case rel=>exact ⟨k+1,i+1,_,by go_num,by go_num,by omega,by omega,by omega,by omega,by rw [List.length_set];exact D,H_ (by rw [zqx _ _ _ (by omega),J.out,HT.out];simp),H_ (by rw [zqy _ _ _ _ (by omega)];exact K.out),H_ (a2.out n d),H_ (a3.out n (S.out.trans0 d))⟩
        case measure=>omega
      go_wp2_with (go_at_call 100;refine (E.out _ ((Fr.refl No wr).alloc _)).mono ?_;rintro e n ⟨rfl,t⟩)
      go_roundg g
      case rel=>exact ⟨k,i+1,M,rfl,by go_num,by omega,by omega,by omega,by omega,D,H_ (by rw [J.out,HT.out];simp),K,H_ (HS.out.fr0 (((Fr.refl No wr).alloc _).trans0 t)),H_ (S.out.trans0 (((Fr.refl No wr).alloc _).trans0 t))⟩
      case measure=>omega
  have Z:¬ (i:Int)<(L.length:Int):=by omega
  have am:i=L.length:=(by omega);have ah:Hid (M.take k=L.filter (insB lo up)):=H_ (by rw [HT.out,am,List.take_length]);clear HT HD z HV HB F R;have bh:(k:Int)<=(L.length:Int):=(by omega);have f:(k:Int)<=(cap:Int):=(by omega);have aN:k<=cap:=(by omega);have aE:¬ cap=k:=(by omega);have c:SlF wr 101 13 evC (.slice (some ⟨o,go,none⟩) M.length cap) M:=(by rw [D];exact HS.out)
  obtain ⟨r,A,V⟩:∃ r:Array Value,wr.heap[o]?=some (.cells r 101 (0,0))/\go+L.length * 13<=r.size:=by
   rcases c.2 with ⟨B,_⟩ | ⟨g',o',aD,r,hv,hg,h2,h3,h4,h5⟩
   · cases B
   simp only [Value.slice.injEq,Option.some.injEq,Addr.mk.injEq,and_true] at hv
   obtain ⟨⟨rfl,rfl⟩,_,rfl⟩:=hv;have:L.length * 13<=cap * 13:=Nat.mul_le_mul_right _ (by omega);exact ⟨r,hg,by omega⟩
  have a9:go+k * 13+(L.length-k) * 13<=r.size:=(by omega);obtain ⟨w3,aK,aa,N⟩:=zfg (P:=Tryz.prog) wr 28 101 0 _ Tryz.underlying28 zero73 (by decide) o (go+k * 13) (L.length-k) (cap-k) r 101 A (by exact a9);have ad:Fr (fun b=>b=o) wr w3:=(Fr.refl _ wr).grown N fun j hj=>.inl (by simpa using hj.symm);have T:=SlF.cleared zac c k (by omega) r A (Builtin.zeroCells zv73.cells (L.length-k)).toList (by rw [zbp,D];rfl) (by rw [D];exact aa);have al:=H_ T;clear c T aa N A V a9;go_wp2;go_ret;exact ⟨_,rfl,by rw [<-ah.out];exact al.out,(S.out.trans ad fun _ _ h=>h).mono fun b _ h=>by rw [h];rfl,fun b h=>h⟩
def zjs (S:St) (a b:Int):Int:=if a<1\/b<a then 1 else if S.rev<b then 33 else if a<S.mark then 32 else 0
set_option maxHeartbeats 4000000 in
theorem zop {TA:zaq} {N:Nat} (_hT:TreeOk TA N) (w:World) (s:Nat) (S:St) (F:Nat->Prop) (hS:zak TA w s S F) (hev:S.events.length<=1099511627) (hne:1<=S.rev->0<S.events.length) (a b:Int) :
 Calls Tryz.prog 47 #[.pointer (some ⟨s,0,none⟩),.int .i64 a,.int .i64 b] w fun e w'=>∃ v,e=.returned (.tuple #[v,.int .i64 (zjs S a b)])/\SlF w' 101 13 evC v (if zjs S a b=0 then S.events.filter (insB a b) else [])/\Fr No w w'/\(∀ k,v.ownBlock=some k->w.heap.size<=k):=by
 obtain ⟨t,p,ev,hp,FT,FH,A,hF⟩:=hS;have W:=A.obj.cell 3 rfl;have c4:=A.obj.cell 4 rfl;have c5:=A.obj.cell 5 rfl;have V:=A.obj.lt;have n:=A.events;obtain ⟨ea,Z,rfl,aa,ad,X⟩:=n.shape;have O:=H_ n;clear A hF n X;unfold zjs;by_cases h1:a<1
 · rw [if_pos (.inl h1)]
   rw [if_neg (by decide)];go_enter Tryz.func47,Tryz.ntmps47;go_wp2
   go_ret2
   exact ⟨_,rfl,SlF.nil _ _ _ _,((Fr.refl No w).alloc _).alloc _,fun k hk=>by simp [Value.ownBlock] at hk⟩
 by_cases h2:b<a
 · rw [if_pos (.inr h2)]
   rw [if_neg (by decide)];go_enter Tryz.func47,Tryz.ntmps47;go_wp2
   go_ret2
   exact ⟨_,rfl,SlF.nil _ _ _ _,((Fr.refl No w).alloc _).alloc _,fun k hk=>by simp [Value.ownBlock] at hk⟩
 rw [if_neg (by omega)]
 have c:Fr No w ((w.alloc (Obj.cells #[.int .i64 a] 3)).alloc (Obj.cells #[.int .i64 b] 3)):=((Fr.refl No w).alloc _).alloc _;have g:((w.alloc (Obj.cells #[.int .i64 a] 3)).alloc (Obj.cells #[.int .i64 b] 3)).heap[w.heap.size]?=some (.cells #[.int .i64 a] 3 (0,0)):=zaj (zad _ _ _ rfl) _;have d:((w.alloc (Obj.cells #[.int .i64 a] 3)).alloc (Obj.cells #[.int .i64 b] 3)).heap[w.heap.size+1]?=some (.cells #[.int .i64 b] 3 (0,0)):=zad _ _ _ (by simp);by_cases h3:S.rev<b
 · rw [if_pos h3]
   rw [if_neg (by decide)];go_enter Tryz.func47,Tryz.ntmps47;go_upto_region 5 with fail;have L:=c.cell0 W;have x:((w.alloc (Obj.cells #[.int .i64 a] 3)).alloc (Obj.cells #[.int .i64 b] 3)).cell? ⟨w.heap.size,0,none⟩=some (.int .i64 a):=(by unfold World.cell?;dsimp only;rw [g];rfl);have G:((w.alloc (Obj.cells #[.int .i64 a] 3)).alloc (Obj.cells #[.int .i64 b] 3)).cell? ⟨w.heap.size+1,0,none⟩=some (.int .i64 b):=(by unfold World.cell?;dsimp only;rw [d];rfl);have lb:=zaa d;have la:=zaa g;have l:s<((w.alloc (Obj.cells #[.int .i64 a] 3)).alloc (Obj.cells #[.int .i64 b] 3)).heap.size:=Nat.lt_of_lt_of_le V c.size;generalize (w.alloc (Obj.cells #[.int .i64 a] 3)).alloc (Obj.cells #[.int .i64 b] 3)=i at *
   go_quiet (fail)
   have j:=Fr.drewN No i nq;generalize i.drewN nq=r at *;go_wp2
   go_ret2
   exact ⟨_,rfl,SlF.nil _ _ _ _,c.trans0 j,fun k hk=>by simp [Value.ownBlock] at hk⟩
 rw [if_neg h3]
 by_cases h4:a<S.mark
 · rw [if_pos h4]
   rw [if_neg (by decide)];go_enter Tryz.func47,Tryz.ntmps47;go_upto_region 5 with fail;have L:=c.cell0 W;have D:=c.cell0 c4;have x:((w.alloc (Obj.cells #[.int .i64 a] 3)).alloc (Obj.cells #[.int .i64 b] 3)).cell? ⟨w.heap.size,0,none⟩=some (.int .i64 a):=(by unfold World.cell?;dsimp only;rw [g];rfl);have G:((w.alloc (Obj.cells #[.int .i64 a] 3)).alloc (Obj.cells #[.int .i64 b] 3)).cell? ⟨w.heap.size+1,0,none⟩=some (.int .i64 b):=(by unfold World.cell?;dsimp only;rw [d];rfl);have lb:=zaa d;have la:=zaa g;have l:s<((w.alloc (Obj.cells #[.int .i64 a] 3)).alloc (Obj.cells #[.int .i64 b] 3)).heap.size:=Nat.lt_of_lt_of_le V c.size;generalize (w.alloc (Obj.cells #[.int .i64 a] 3)).alloc (Obj.cells #[.int .i64 b] 3)=i at *
   go_quiet (fail)
   have j:=Fr.drewN No i nq;have e4:=j.cell0 D;have o:=j.cell0 x;have E:s<(i.drewN nq).heap.size:=l;have M:w.heap.size<(i.drewN nq).heap.size:=la;generalize i.drewN nq=r at *;clear x G L D;go_upto_region 7 with fail
   go_quiet (fail)
   have f:=Fr.drewN No r nq;generalize r.drewN nq=y at *;go_wp2
   go_ret2
   exact ⟨_,rfl,SlF.nil _ _ _ _,(c.trans0 j).trans0 f,fun k hk=>by simp [Value.ownBlock] at hk⟩
 rw [if_neg h4]
 rw [if_pos rfl];have a5:∀ (fn:Fn) (first cap:Array Value) (w:World),(Instr.makeFunc fn first cap).run Tryz.prog w=.ok (.func fn first cap) w:=fun _ _ _ _=>rfl;go_enter Tryz.func47,Tryz.ntmps47;go_upto_region 5 with fail;have L:=c.cell0 W;have D:=c.cell0 c4;have x:((w.alloc (Obj.cells #[.int .i64 a] 3)).alloc (Obj.cells #[.int .i64 b] 3)).cell? ⟨w.heap.size,0,none⟩=some (.int .i64 a):=(by unfold World.cell?;dsimp only;rw [g];rfl);have G:((w.alloc (Obj.cells #[.int .i64 a] 3)).alloc (Obj.cells #[.int .i64 b] 3)).cell? ⟨w.heap.size+1,0,none⟩=some (.int .i64 b):=(by unfold World.cell?;dsimp only;rw [d];rfl);have lb:=zaa d;have la:=zaa g;have l:s<((w.alloc (Obj.cells #[.int .i64 a] 3)).alloc (Obj.cells #[.int .i64 b] 3)).heap.size:=Nat.lt_of_lt_of_le V c.size
 generalize (w.alloc (Obj.cells #[.int .i64 a] 3)).alloc (Obj.cells #[.int .i64 b] 3)=i at *
 go_quiet (fail)
 have j:=Fr.drewN No i nq;have e4:=j.cell0 D;have o:=j.cell0 x;have C:=j.cell0 G;have E:s<(i.drewN nq).heap.size:=l;have M:w.heap.size<(i.drewN nq).heap.size:=la;have q:=c.trans0 j;generalize i.drewN nq=r at *;clear x G L D;go_upto_region 7 with fail
 go_quiet (fail)
 have f:=Fr.drewN No r nq;have e5:=(q.trans0 f).cell0 c5;have z:=f.cell0 o;have B:=f.cell0 C;have a7:s<(r.drewN nq).heap.size:=E;have m:=q.trans0 f;have a6:=m.size;have I:=O.out.fr0 m;generalize r.drewN nq=y at *;have Q:=H_ I;have U:=H_ m;have J:0<S.events.length:=hne (by omega);clear o C e4 I q m j f g d c
 go_wp2_with (first
  | (go_at_call 99;refine (zhi y _ S.events Q.out J hev).mono ?_;rintro e w4 ⟨cg,co,Y,rfl,T,u,a9⟩)
  | (go_at_call 98
     have a0:w.heap.size<y.heap.size:=World.block_lt_of_cell? _ _ z;have a1:w.heap.size+1<y.heap.size:=World.block_lt_of_cell? _ _ B;refine (zoi w4 _ S.events w.heap.size (w.heap.size+1) a b (u.cell0 z) (u.cell0 B) T (fun e=>by simp [Value.ownBlock] at e;omega) (fun e=>by simp [Value.ownBlock] at e;omega) hev).mono ?_;rintro e w5 ⟨dv,rfl,K,R,P⟩;obtain ⟨da,a3,rfl,_,_,_⟩:=K.shape;have H:Fr No y w5:=u.trans R fun b hb h=>by simp [Value.ownBlock] at h;omega))
 go_ret2
 exact ⟨_,rfl,K,U.out.trans0 H,fun k hk=>by have:=P k hk;simp [Value.ownBlock] at this;omega⟩
def zcb (S:St) (rev:Int):Int:=if S.rev<rev then 33 else if rev<=S.mark then 32 else 0
set_option maxHeartbeats 4000000 in
theorem zqs {TA:zaq} (w:World) (s:Nat) (S:St) (F:Nat->Prop) (hS:zak TA w s S F) (rev:Int) (hE:zcb S rev≠0) :
 Calls Tryz.prog 50 #[.pointer (some ⟨s,0,none⟩),.int .i64 rev] w fun e w'=>e=.returned (.int .i64 (zcb S rev))/\Fr No w w':=by
 obtain ⟨t,p,A,y,z,B,a,hF⟩:=hS;have o:=a.obj.cell 3 rfl;have r:=a.obj.cell 4 rfl;have n:=a.obj.lt;clear a hF;unfold zcb at *;have c:=zad w (Obj.cells #[.int .i64 rev] 3) _ rfl;have b:Fr No w (w.alloc (Obj.cells #[.int .i64 rev] 3)):=(Fr.refl No w).alloc _;by_cases h1:S.rev<rev
 · rw [if_pos h1]
   clear hE;go_enter Tryz.func50,Tryz.ntmps50;go_upto_region 3 with fail;generalize w.alloc (Obj.cells #[.int .i64 rev] 3)=d at c b ⊢
   have l:d.cell? ⟨w.heap.size,0,none⟩=some (.int .i64 rev):=cellAt c 0 rfl;have q:=b.cell0 o;have lb:=zaa c;have g:s<d.heap.size:=Nat.lt_of_lt_of_le n b.size
   go_quiet (fail)
   have f:=Fr.drewN No d nq;have i:Fr No w (d.drewN nq):=b.trans0 f;generalize d.drewN nq=k at *;go_wp2;go_ret;exact ⟨rfl,i⟩
 rw [if_neg h1] at hE ⊢
 by_cases h2:rev<=S.mark
 · rw [if_pos h2]
   clear hE;go_enter Tryz.func50,Tryz.ntmps50;go_upto_region 3 with fail;generalize w.alloc (Obj.cells #[.int .i64 rev] 3)=d at c b ⊢
   have l:d.cell? ⟨w.heap.size,0,none⟩=some (.int .i64 rev):=cellAt c 0 rfl;have q:=b.cell0 o;have m:=b.cell0 r;have lb:=zaa c;have g:s<d.heap.size:=Nat.lt_of_lt_of_le n b.size
   go_quiet (fail)
   have f:=Fr.drewN No d nq;have b1:=f.cell0 l;have C:=f.cell0 m;have v:w.heap.size<(d.drewN nq).heap.size:=lb;have u:s<(d.drewN nq).heap.size:=g;have i:Fr No w (d.drewN nq):=b.trans0 f;generalize d.drewN nq=k at *;clear l q m lb g f b c;go_upto_region 5 with fail
   go_quiet (fail)
   have f:=Fr.drewN No k nq;have j:Fr No w (k.drewN nq):=i.trans0 f;generalize k.drewN nq=x at j f ⊢
   go_wp2;go_ret;exact ⟨rfl,j⟩
 exact absurd (if_neg h2) hE
def kindN (n:Int):Int:=(n.tmod 8+8).tmod 8
theorem zpj (n:Int):0<=kindN n/\kindN n<=7:=by
 unfold kindN;have d:=Int.tmod_lt_of_pos n (show (0:Int)<8 by decide);have b:=Int.lt_tmod_of_pos n (show (0:Int)<8 by decide);have c:=Int.tmod_nonneg (a:=n.tmod 8+8) 8 (by omega);have e:=Int.tmod_lt_of_pos (n.tmod 8+8) (show (0:Int)<8 by decide);omega
theorem ztp (w:World) (q:Cal×List Opr×List ByteArray):Calls Tryz.prog 52 #[.agg (calC q).toArray] w fun e w'=>e=.returned (.int .i64 (kindN q.1.kind))/\Fr No w w':=by
 obtain ⟨⟨a,m,⟨i,g,l,j,s,r,d⟩,n,f,o⟩,c,b⟩:=q;unfold calC rgC;dsimp only;unfold kindN;have p:=Int.tmod_lt_of_pos a (show (0:Int)<8 by decide);have k:=Int.lt_tmod_of_pos a (show (0:Int)<8 by decide);go_enter Tryz.func52,Tryz.ntmps52;go_wp2;go_ret;exact ⟨by rw [Int.tmod_eq_emod_of_nonneg (show 0<=a.tmod 8+8 by omega)];rfl,(Fr.refl No w).alloc _⟩
abbrev CalQ:=Cal×List Opr×List ByteArray
def doE (S:St) (q:CalQ):Int :=
 if kindN q.1.kind=4 then rangeE S q.1.rg else if kindN q.1.kind=5 then zcb S q.1.rev else if kindN q.1.kind=6 then zjs S q.1.rev q.1.upto else if kindN q.1.kind=7 then 0 else applyE S q.2.1
def doT (S:St) (q:CalQ):St :=
 if kindN q.1.kind=4 then S else if kindN q.1.kind=5 then (if zcb S q.1.rev=0 then compS q.1.rev S else S) else if kindN q.1.kind=6 then S else if kindN q.1.kind=7 then dropS S q.2.2
 else if applyE S q.2.1=0 then applyS S q.2.1 else S
def doD (S:St) (D:Doc) (q:CalQ):Doc :=
 if kindN q.1.kind=4 then D else if kindN q.1.kind=5 then (if zcb S q.1.rev=0 then D.cut q.1.rev else D) else if kindN q.1.kind=6 then D else if kindN q.1.kind=7 then dropD S D q.2.2
 else if applyE S q.2.1=0 then applyD S D q.2.1 else D
theorem zbe {S:St} {ops:List Opr} (h:applyE S ops=0):checkE ops=0/\whenAll S ops=0:=by
 unfold applyE at h
 split at h
 · rename_i hc;exact absurd h hc
 rename_i hc;exact ⟨by simpa using hc,h⟩
theorem zew {S:St} {rev:Int} (h:zcb S rev=0):rev<=S.rev/\S.mark<rev:=by
 unfold zcb at h
 split at h
 · cases h
 split at h
 · cases h
 omega
theorem zfu {q:CalQ} (h:fewCal q=true):(∀ o∈q.2.1,o.rg.key.size<=3000/\o.rg.end_.size<=3000/\o.value.size<=3000)/\q.2.1.length<=30/\q.2.2.length<=30/\q.1.rg.key.size<=3000/\q.1.rg.end_.size<=3000:=by
 unfold fewCal fewKey at h;simp only [Bool.and_eq_true,decide_eq_true_eq] at h;obtain ⟨⟨⟨⟨a,b⟩,c⟩,d⟩,e⟩:=h;unfold fewOps at a;simp only [Bool.and_eq_true,decide_eq_true_eq,List.all_eq_true] at a;refine ⟨fun o ho=>?_,a.1,b,c,d⟩;have:=a.2 o ho;unfold fewOp at this;simp only [Bool.and_eq_true,decide_eq_true_eq] at this;omega
theorem Good.does {k:Nat} {S:St} {D:Doc} (h:Good k S D) (hk:k<=70) {q:CalQ} (hq:fewCal q=true):Good (k+1) (doT S q) (doD S D q):=by
 obtain ⟨c,g,d,f,e⟩:=zfu hq;unfold doT doD;by_cases h4:kindN q.1.kind=4
 · rw [if_pos h4,if_pos h4];exact h.mono (by omega)
 rw [if_neg h4,if_neg h4]
 by_cases h5:kindN q.1.kind=5
 · rw [if_pos h5,if_pos h5]
   by_cases hc:zcb S q.1.rev=0
   · rw [if_pos hc,if_pos hc]
     obtain ⟨b,a⟩:=zew hc;rw [h.rev] at b;rw [h.cpl.mark] at a;exact (h.cut (by omega) a b).mono (by omega)
   rw [if_neg hc,if_neg hc];exact h.mono (by omega)
 rw [if_neg h5,if_neg h5]
 by_cases h6:kindN q.1.kind=6
 · rw [if_pos h6,if_pos h6];exact h.mono (by omega)
 rw [if_neg h6,if_neg h6]
 by_cases h7:kindN q.1.kind=7
 · rw [if_pos h7,if_pos h7]
   exact h.drop hk q.2.2 d
 rw [if_neg h7,if_neg h7]
 by_cases ha:applyE S q.2.1=0
 · rw [if_pos ha,if_pos ha]
   exact h.apply hk (zbe ha).1 fun o ho=>by have:=(c o ho).1;omega
 rw [if_neg ha,if_neg ha];exact h.mono (by omega)
theorem Good.compG {k:Nat} {S:St} {D:Doc} (h:Good k S D) (hk:k<=50000) {R:Int} (h1:S.mark<R) (h2:R<=S.rev):CompGk S R:=by
 have d:=h.cpl.m0;have e:=h.rev;rw [h.cpl.mark] at h1;rw [e] at h2;refine ⟨by omega,by rw [h.cpl.mark];exact h1,h.events_pos (by omega),zvj h.cpl.inv h.srt,h.srt,fun p hp H hH=>?_⟩;have f:=(h.ok.hist _ _ hH).1;have c:=h.more _ _ hH;refine ⟨(f.comp c (by omega) R).fits (by omega),?_⟩;obtain ⟨l,a,b⟩:=c.fin;exact ⟨l,by omega,b⟩
theorem zqr {TA:zaq} (hT:TreeOk TA 1000000) {k:Nat} {S:St} {D:Doc} (h:Good k S D) (hk:k<=70) (w:World) (s:Nat) (F:Nat->Prop) (hS:zak TA w s S F) (v:Value) (keys:List ByteArray) (hv:SlR w 1 strC v keys)
 (hvF:0<keys.length->∀ b,v.ownBlock=some b->¬ F b) (hl:keys.length<=30) :
 Calls Tryz.prog 57 #[.pointer (some ⟨s,0,none⟩),v] w fun e w'=>∃ ev,e=.returned (.tuple #[ev,.int .i64 0])/\∃ F',zak TA w' s (dropS S keys) F' ∧
  SlF w' 101 13 evC ev (keys.foldl (dropR (S.rev+1)) (S,[])).2/\Fr F w w'/\(∀ b,F' b->F b\/w.heap.size<=b)/\(∀ b,ev.ownBlock=some b->w.heap.size<=b/\¬ F' b):=by
 have j:=h.rev;have c:=h.rev1;have f:=h.cpl.m0;refine ztq hT (n:=20000 * k+30) (by omega) w s S F hS v keys hv hvF (by omega) (by unfold top;omega) (by unfold top;omega) fun i x hx=>?_;have d:=(List.getElem?_eq_some_iff.1 hx).1;obtain ⟨a,b⟩:=h.drops hk keys hl i (by omega);rw [j];refine ⟨a.ok.mono (by omega),?_,b x hx⟩;have g:=a.ok.ev;rw [a.cpl.events,(Doc.adds_parts D _).2.2,List.length_append] at g;omega
theorem zoq {TA:zaq} (hT:TreeOk TA 1000000) {k:Nat} {S:St} {D:Doc} (h:Good k S D) (hk:k<=70) (w:World) (s:Nat) (F:Nat->Prop) (hS:zak TA w s S F) (v:Value) (ops:List Opr) (hv:SlR w 10 opC v ops)
 (hvF:0<ops.length->∀ b,v.ownBlock=some b->¬ F b) (hl:ops.length<=30) (hks:∀ o∈ops,o.rg.key.size<=3000) :
 Calls Tryz.prog 37 #[.pointer (some ⟨s,0,none⟩),v] w fun e w'=>∃ av ev,e=.returned (.tuple #[av,ev,.int .i64 (applyE S ops)])/\∃ F' Z,zak TA w' s (if applyE S ops=0 then applyS S ops else S) F'/\AnsR w' av Z ∧
  Z.map (·.1)=(if applyE S ops=0 then (runR (S.rev+1) ⟨S,[],[]⟩ ops).A else [])/\SlF w' 101 13 evC ev (if applyE S ops=0 then (runR (S.rev+1) ⟨S,[],[]⟩ ops).E else [])/\Fr F w w'/\(∀ b,F' b->F b\/w.heap.size<=b):=by
 have r:=h.rev;have p:=h.rev1;have q:=h.cpl.m0;by_cases he:applyE S ops=0
 · obtain ⟨j,t⟩:=zbe he
   simp only [if_pos he];rw [he];refine (zjy hT (n:=20000 * k+20000) (by omega) w s S F hS v ops hv hvF (by omega) (fun o ho=>by have:=hks o ho;omega) (by unfold top;omega) (by unfold top;omega) j t fun i o ho=>?_).mono ?_
   · have m:=(List.getElem?_eq_some_iff.1 ho).1
     rw [r];exact (h.runs hk j (fun o ho=>by have:=hks o ho;omega) i (by omega)).2 o ho
   rintro e w' ⟨av,ev,rfl,F',Z,a,b,c,d,f,g,_⟩
   exact ⟨av,ev,rfl,F',Z,a,b,c,d,f,g⟩
 simp only [if_neg he]
 refine (zol hT w s S F hS v ops hv (by omega) (fun o ho=>by have:=hks o ho;omega) he).mono ?_;rintro e w' ⟨rfl,l⟩;exact ⟨_,_,rfl,F,[],hS.fr0 hT l,AnsR.nil _,rfl,SlF.nil _ _ _ _,l.mono fun _ _ h=>h.elim,fun b h=>.inl h⟩
theorem zkq {TA:zaq} (hT:TreeOk TA 1000000) (hTD:TreeDl TA) {k:Nat} {S:St} {D:Doc} (h:Good k S D) (hk:k<=70) (w:World) (s:Nat) (F:Nat->Prop) (hS:zak TA w s S F) (rev:Int) :
 Calls Tryz.prog 50 #[.pointer (some ⟨s,0,none⟩),.int .i64 rev] w fun e w'=>e=.returned (.int .i64 (zcb S rev))/\∃ F',zak TA w' s (if zcb S rev=0 then compS rev S else S) F'/\Fr F w w'/\(∀ b,F' b->F b\/w.heap.size<=b):=by
 by_cases he:zcb S rev=0
 · obtain ⟨d,c⟩:=zew he
   rw [if_pos he,he];exact zkr hT hTD (n:=20000 * k) (by omega) w s S F hS h.ok (by have:=h.size;omega) rev (h.compG (by omega) c d)
 rw [if_neg he]
 refine (zqs w s S F hS rev he).mono ?_;rintro e w' ⟨rfl,a⟩;exact ⟨rfl,F,hS.fr0 hT a,a.mono fun _ _ h=>h.elim,fun b h=>.inl h⟩
theorem zon {TA:zaq} (hT:TreeOk TA 1000000) {k:Nat} {S:St} {D:Doc} (h:Good k S D) (hk:k<=70) (w:World) (s:Nat) (F:Nat->Prop) (hS:zak TA w s S F) (g:Rg) (hks:g.key.size<=3000) :
 Calls Tryz.prog 46 #[.pointer (some ⟨s,0,none⟩),rgV g] w fun e w'=>∃ v,e=.returned (.tuple #[v,.int .i64 (if rangeE S g=0 then ((allL S g S.rev).length:Int) else 0),.bool (decide (rangeE S g=0)&&moreB S g S.rev),.int .i64 (rangeE S g)]) ∧
  SlF w' 99 6 kvC v (if rangeE S g=0 then getL S g S.rev else [])/\Fr No w w'/\(∀ b,v.ownBlock=some b->w.heap.size<=b):=by
 by_cases he:rangeE S g=0
 · simp only [he,decide_true,Bool.true_and]
   exact zgl hT (n:=20000 * k) (by omega) w s S F hS h.ok (by have:=h.size;omega) g (by omega) he
 simp only [he,decide_false,Bool.false_and]
 refine (zwe hT w s S F hS g (by omega) he).mono ?_;rintro e w' ⟨rfl,a⟩;exact ⟨_,rfl,SlF.nil _ _ _ _,a,fun b hb=>by simp [Value.ownBlock] at hb⟩
set_option maxHeartbeats 8000000 in
theorem zyk {TA:zaq} (hT:TreeOk TA 1000000) (hTD:TreeDl TA) {k:Nat} {S:St} {D:Doc} (h:Good k S D) (hk:k<=70) (w:World) (s:Nat) (F:Nat->Prop) (hS:zak TA w s S F) (q:CalQ) (hq:fewCal q=true)
 (ha:SlR w 10 opC q.1.ops q.2.1) (hb:SlR w 1 strC q.1.keys q.2.2) (haF:0<q.2.1.length->∀ b,q.1.ops.ownBlock=some b->¬ F b) (hbF:0<q.2.2.length->∀ b,q.1.keys.ownBlock=some b->¬ F b) :
 Calls Tryz.prog 27 #[.pointer (some ⟨s,0,none⟩),.agg (calC q).toArray] w fun e w'=>e=.returned (.int .i64 (doE S q))/\∃ F',zak TA w' s (doT S q) F'/\Fr F w w'/\(∀ b,F' b->F b\/w.heap.size<=b):=by
 obtain ⟨f1,f2,f3,f4,f5⟩:=zfu hq;have a0:=fun W=>ztp W q;have aJ:=zpj q.1.kind;have V:=fun W (h1:Fr No w W)=>zon hT h hk W s F (hS.fr0 hT h1) q.1.rg f4;have X:=fun W (h1:Fr No w W)=>zkq hT hTD h hk W s F (hS.fr0 hT h1) q.1.rev;have R:=fun W (h1:Fr No w W)=>zop hT W s S F (hS.fr0 hT h1) (by have:=h.ok.ev;omega) (fun h1=>h.events_pos (by rw [<-h.rev];exact h1)) q.1.rev q.1.upto;have Y:=fun W (h1:Fr No w W)=>zqr hT h hk W s F (hS.fr0 hT h1) q.1.keys q.2.2 (hb.fr0 h1) hbF f3;have U:=fun W (h1:Fr No w W)=>zoq hT h hk W s F (hS.fr0 hT h1) q.1.ops q.2.1 (ha.fr0 h1) haF f2 fun o ho=>(f1 o ho).1;obtain ⟨O,f,ah,_,_,_⟩:=ha.shape;obtain ⟨N,d,an,_,_,_⟩:=hb.shape;have T:=fun W (h1:Fr No w W)=>hS.fr0 hT h1;unfold doE doT;clear ha hb haF hbF hq f1 f2 f3 f4 f5 h hk hS hTD
 obtain ⟨⟨p1,p2,⟨z,B,C,y,H,G,x⟩,J,L,p5⟩,i,g⟩:=q;dsimp only at *;subst ah an;unfold calC rgC rgV at *;dsimp only at *;generalize kindN p1=M at *;generalize rangeE S _=P at *;generalize zcb S _=ag at *;generalize zjs S _ _=al at *;generalize applyE S _=Q at *;generalize (if P=0 then ((allL S ⟨z,B,C,y,H,G,x⟩ S.rev).length:Int) else 0)=aG at *;generalize (decide (P=0)&&moreB S ⟨z,B,C,y,H,G,x⟩ S.rev)=aC at *;generalize (if P=0 then getL S ⟨z,B,C,y,H,G,x⟩ S.rev else [])=aA at *;generalize (if ag=0 then compS J S else S)=ay at *;generalize (if al=0 then S.events.filter (insB J L) else [])=az at *;generalize (if Q=0 then applyS S i else S)=aI at *;generalize (if Q=0 then (runR (S.rev+1) ⟨S,[],[]⟩ i).A else [])=aB at *
 generalize (if Q=0 then (runR (S.rev+1) ⟨S,[],[]⟩ i).E else [])=au at *;have r:=H_ a0;have am:=H_ V;have ak:=H_ X;have aj:=H_ R;have ao:=H_ Y;have af:=H_ U;have a2:=H_ T;clear a0 V X R Y U T;have p:Fr No w (w.alloc (Obj.cells #[.int .i64 p1,.slice O i.length f,.string z,.string B,.int .i64 C,.int .i64 y,.bool H,.bool G,.bool x,.int .i64 J,.int .i64 L,.slice N g.length d] 38)):=(Fr.refl No w).alloc _;have n:=zad w (Obj.cells #[.int .i64 p1,.slice O i.length f,.string z,.string B,.int .i64 C,.int .i64 y,.bool H,.bool G,.bool x,.int .i64 J,.int .i64 L,.slice N g.length d] 38) _ rfl;by_cases h4:M=4
 · subst h4
   rw [if_pos rfl,if_pos rfl];go_enter Tryz.func27,Tryz.ntmps27
   go_wp2_with (first
   | (go_at_call 52;refine (r.out _).mono ?_;rintro e w1 ⟨rfl,l⟩
      have c:=p.trans0 l;have a:=l.heap n (fun h=>h);have x1:w1.cell? ⟨w.heap.size,1,none⟩=some (.slice O i.length f):=cellAt a 1 rfl;have x2:w1.cell? ⟨w.heap.size,2,none⟩=some (.string z):=cellAt a 2 rfl;have x3:w1.cell? ⟨w.heap.size,3,none⟩=some (.string B):=cellAt a 3 rfl;have x4:w1.cell? ⟨w.heap.size,4,none⟩=some (.int .i64 C):=cellAt a 4 rfl;have x5:w1.cell? ⟨w.heap.size,5,none⟩=some (.int .i64 y):=cellAt a 5 rfl;have x6:w1.cell? ⟨w.heap.size,6,none⟩=some (.bool H):=cellAt a 6 rfl;have x7:w1.cell? ⟨w.heap.size,7,none⟩=some (.bool G):=cellAt a 7 rfl;have x8:w1.cell? ⟨w.heap.size,8,none⟩=some (.bool x):=cellAt a 8 rfl;have x9:w1.cell? ⟨w.heap.size,9,none⟩=some (.int .i64 J):=cellAt a 9 rfl
      have I:w1.cell? ⟨w.heap.size,10,none⟩=some (.int .i64 L):=cellAt a 10 rfl;have K:w1.cell? ⟨w.heap.size,11,none⟩=some (.slice N g.length d):=cellAt a 11 rfl;have lx:=zaa a)
   | (go_at_call 46;refine (am.out _ c).mono ?_;rintro e w2 ⟨v,rfl,_,j,_⟩))
   go_ret;have t:=c.trans0 j;exact ⟨rfl,F,a2.out _ t,t.mono fun _ _ h=>h.elim,fun b h=>.inl h⟩
 have aF:(M==4)=false:=by simpa using h4
 rw [if_neg h4,if_neg h4];by_cases h5:M=5
 · subst h5
   rw [if_pos rfl,if_pos rfl];go_enter Tryz.func27,Tryz.ntmps27
   go_wp2_with (first
   | (go_at_call 52;refine (r.out _).mono ?_;rintro e w1 ⟨rfl,l⟩
      have c:=p.trans0 l;have a:=l.heap n (fun h=>h);have x1:w1.cell? ⟨w.heap.size,1,none⟩=some (.slice O i.length f):=cellAt a 1 rfl;have x2:w1.cell? ⟨w.heap.size,2,none⟩=some (.string z):=cellAt a 2 rfl;have x3:w1.cell? ⟨w.heap.size,3,none⟩=some (.string B):=cellAt a 3 rfl;have x4:w1.cell? ⟨w.heap.size,4,none⟩=some (.int .i64 C):=cellAt a 4 rfl;have x5:w1.cell? ⟨w.heap.size,5,none⟩=some (.int .i64 y):=cellAt a 5 rfl;have x6:w1.cell? ⟨w.heap.size,6,none⟩=some (.bool H):=cellAt a 6 rfl;have x7:w1.cell? ⟨w.heap.size,7,none⟩=some (.bool G):=cellAt a 7 rfl;have x8:w1.cell? ⟨w.heap.size,8,none⟩=some (.bool x):=cellAt a 8 rfl;have x9:w1.cell? ⟨w.heap.size,9,none⟩=some (.int .i64 J):=cellAt a 9 rfl
      have I:w1.cell? ⟨w.heap.size,10,none⟩=some (.int .i64 L):=cellAt a 10 rfl;have K:w1.cell? ⟨w.heap.size,11,none⟩=some (.slice N g.length d):=cellAt a 11 rfl;have lx:=zaa a)
   | (go_at_call 50;refine (ak.out _ c).mono ?_;rintro e w2 ⟨rfl,F2,m,j,u⟩))
   go_ret;refine ⟨rfl,F2,m,(c.mono fun _ _ h=>h.elim).trans j fun _ _ h=>h,fun b hb=>?_⟩;have:=c.size;rcases u b hb with h | h
   · exact .inl h
   exact .inr (by omega)
 have ax:(M==5)=false:=by simpa using h5
 rw [if_neg h5,if_neg h5];by_cases h6:M=6
 · subst h6
   rw [if_pos rfl,if_pos rfl];go_enter Tryz.func27,Tryz.ntmps27
   go_wp2_with (first
   | (go_at_call 52;refine (r.out _).mono ?_;rintro e w1 ⟨rfl,l⟩
      have c:=p.trans0 l;have a:=l.heap n (fun h=>h);have x1:w1.cell? ⟨w.heap.size,1,none⟩=some (.slice O i.length f):=cellAt a 1 rfl;have x2:w1.cell? ⟨w.heap.size,2,none⟩=some (.string z):=cellAt a 2 rfl;have x3:w1.cell? ⟨w.heap.size,3,none⟩=some (.string B):=cellAt a 3 rfl;have x4:w1.cell? ⟨w.heap.size,4,none⟩=some (.int .i64 C):=cellAt a 4 rfl;have x5:w1.cell? ⟨w.heap.size,5,none⟩=some (.int .i64 y):=cellAt a 5 rfl;have x6:w1.cell? ⟨w.heap.size,6,none⟩=some (.bool H):=cellAt a 6 rfl;have x7:w1.cell? ⟨w.heap.size,7,none⟩=some (.bool G):=cellAt a 7 rfl;have x8:w1.cell? ⟨w.heap.size,8,none⟩=some (.bool x):=cellAt a 8 rfl;have x9:w1.cell? ⟨w.heap.size,9,none⟩=some (.int .i64 J):=cellAt a 9 rfl
      have I:w1.cell? ⟨w.heap.size,10,none⟩=some (.int .i64 L):=cellAt a 10 rfl;have K:w1.cell? ⟨w.heap.size,11,none⟩=some (.slice N g.length d):=cellAt a 11 rfl;have lx:=zaa a)
   | (go_at_call 47;refine (aj.out _ c).mono ?_;rintro e w2 ⟨v,rfl,_,j,_⟩))
   go_ret;have t:=c.trans0 j;exact ⟨rfl,F,a2.out _ t,t.mono fun _ _ h=>h.elim,fun b h=>.inl h⟩
 have aH:(M==6)=false:=by simpa using h6
 rw [if_neg h6,if_neg h6];by_cases h7:M=7
 · subst h7
   rw [if_pos rfl,if_pos rfl];go_enter Tryz.func27,Tryz.ntmps27
   go_wp2_with (first
   | (go_at_call 52;refine (r.out _).mono ?_;rintro e w1 ⟨rfl,l⟩
      have c:=p.trans0 l;have a:=l.heap n (fun h=>h);have x1:w1.cell? ⟨w.heap.size,1,none⟩=some (.slice O i.length f):=cellAt a 1 rfl;have x2:w1.cell? ⟨w.heap.size,2,none⟩=some (.string z):=cellAt a 2 rfl;have x3:w1.cell? ⟨w.heap.size,3,none⟩=some (.string B):=cellAt a 3 rfl;have x4:w1.cell? ⟨w.heap.size,4,none⟩=some (.int .i64 C):=cellAt a 4 rfl;have x5:w1.cell? ⟨w.heap.size,5,none⟩=some (.int .i64 y):=cellAt a 5 rfl;have x6:w1.cell? ⟨w.heap.size,6,none⟩=some (.bool H):=cellAt a 6 rfl;have x7:w1.cell? ⟨w.heap.size,7,none⟩=some (.bool G):=cellAt a 7 rfl;have x8:w1.cell? ⟨w.heap.size,8,none⟩=some (.bool x):=cellAt a 8 rfl;have x9:w1.cell? ⟨w.heap.size,9,none⟩=some (.int .i64 J):=cellAt a 9 rfl
      have I:w1.cell? ⟨w.heap.size,10,none⟩=some (.int .i64 L):=cellAt a 10 rfl;have K:w1.cell? ⟨w.heap.size,11,none⟩=some (.slice N g.length d):=cellAt a 11 rfl;have lx:=zaa a)
   | (go_at_call 57;refine (ao.out _ c).mono ?_;rintro e w2 ⟨v,rfl,F2,m,_,j,u,_⟩))
   go_ret;refine ⟨rfl,F2,m,(c.mono fun _ _ h=>h.elim).trans j fun _ _ h=>h,fun b hb=>?_⟩;have:=c.size;rcases u b hb with h | h
   · exact .inl h
   exact .inr (by omega)
 have aD:(M==7)=false:=by simpa using h7
 rw [if_neg h7,if_neg h7];go_enter Tryz.func27,Tryz.ntmps27
 go_wp2_with (first
 | (go_at_call 52;refine (r.out _).mono ?_;rintro e w1 ⟨rfl,l⟩
    have c:=p.trans0 l;have a:=l.heap n (fun h=>h);have x1:w1.cell? ⟨w.heap.size,1,none⟩=some (.slice O i.length f):=cellAt a 1 rfl;have x2:w1.cell? ⟨w.heap.size,2,none⟩=some (.string z):=cellAt a 2 rfl;have x3:w1.cell? ⟨w.heap.size,3,none⟩=some (.string B):=cellAt a 3 rfl;have x4:w1.cell? ⟨w.heap.size,4,none⟩=some (.int .i64 C):=cellAt a 4 rfl;have x5:w1.cell? ⟨w.heap.size,5,none⟩=some (.int .i64 y):=cellAt a 5 rfl;have x6:w1.cell? ⟨w.heap.size,6,none⟩=some (.bool H):=cellAt a 6 rfl;have x7:w1.cell? ⟨w.heap.size,7,none⟩=some (.bool G):=cellAt a 7 rfl;have x8:w1.cell? ⟨w.heap.size,8,none⟩=some (.bool x):=cellAt a 8 rfl;have x9:w1.cell? ⟨w.heap.size,9,none⟩=some (.int .i64 J):=cellAt a 9 rfl
    have I:w1.cell? ⟨w.heap.size,10,none⟩=some (.int .i64 L):=cellAt a 10 rfl;have K:w1.cell? ⟨w.heap.size,11,none⟩=some (.slice N g.length d):=cellAt a 11 rfl;have lx:=zaa a)
 | (go_at_call 37;refine (af.out _ c).mono ?_;rintro e w2 ⟨av,ev,rfl,F2,Z,m,_,_,_,j,u⟩))
 go_ret;refine ⟨rfl,F2,m,(c.mono fun _ _ h=>h.elim).trans j fun _ _ h=>h,fun b hb=>?_⟩;have:=c.size;rcases u b hb with h | h
 · exact .inl h
 exact .inr (by omega)
def donesT (l:List CalQ) (i:Nat):St×Doc:=(l.take i).foldl (fun p q=>(doT p.1 q,doD p.1 p.2 q)) (newS,newD)
theorem zdk (l:List CalQ) {i:Nat} {q:CalQ} (h:l[i]?=some q):donesT l (i+1)=(doT (donesT l i).1 q,doD (donesT l i).1 (donesT l i).2 q):=by
 unfold donesT;rw [List.take_add_one,h,List.foldl_append]
 rfl
theorem zbm {l:List CalQ} (h:zbh l=true):l.length<=30/\∀ q∈l,fewCal q=true:=by
 unfold zbh at h;simpa [Bool.and_eq_true] using h
theorem zdg {l:List CalQ} (h:zbh l=true):∀ i≤ l.length,Good i (donesT l i).1 (donesT l i).2:=by
 obtain ⟨d,b⟩:=zbm h;intro i
 induction i with
 | zero=>intro _;exact Good.new
 | succ i ih =>
   intro c;obtain ⟨q,a⟩:∃ q,l[i]?=some q:=⟨_,List.getElem?_eq_getElem (by omega)⟩;rw [zdk l a];exact (ih (by omega)).does (by omega) (b q (List.mem_of_getElem? a))
theorem SlR.lt {α:Type} {f:α->List Value} {w:World} {sz:Nat} {v:Value} {L:List α} (h:SlR w sz f v L) (hf:∀ x,(f x).length=sz) (hsz:0<sz) (hp:0<L.length):∀ b,v.ownBlock=some b->b<w.heap.size:=by
 intro b e;obtain ⟨a,cap,rfl,l,k,d⟩:=h;obtain ⟨g,o,rfl,i⟩:=d hp;obtain rfl:g=b:=by simpa [Value.ownBlock] using e
 have c:L[0]?=some L[0]:=List.getElem?_eq_getElem hp;have j:0<(f L[0]).length:=by rw [hf];exact hsz
 exact World.block_lt_of_cell? _ _ (i 0 _ c 0 _ (List.getElem?_eq_getElem j))
end Go.Proofs.YthljnnjpmdgkoaaGreat