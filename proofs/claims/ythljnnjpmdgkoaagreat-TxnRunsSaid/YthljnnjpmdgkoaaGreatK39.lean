/- Own lemmas. -/
import Derived.Test.YthljnnjpmdgkoaaGreatK38
import Derived.Test.YthljnnjpmdgkoaaGreatK26
import Derived.Test.YthljnnjpmdgkoaaGreatK32
import Derived.Test.YthljnnjpmdgkoaaGreatK27
import Derived.Test.YthljnnjpmdgkoaaGreatK36
import Derived.Test.YthljnnjpmdgkoaaGreatK18
import Derived.Test.YthljnnjpmdgkoaaGreatK30
import Derived.Test.YthljnnjpmdgkoaaGreatK23
import Derived.Deep.RegionHeld3
namespace Go.Proofs.YthljnnjpmdgkoaaGreat
open Go Go.Proofs Go.RowKit
set_option maxRecDepth 100000
theorem zid {TA:zaq} (hT:TreeOk TA 1000000) {k:Nat} {S:St} {D:Doc} (h:Good k S D) (hk:k<=70) (w:World) (s:Nat) (F:Nat->Prop) (hS:zak TA w s S F) :
 Calls Tryz.prog 23 #[.pointer (some ⟨s,0,none⟩)] w fun e w'=>∃ a1 c1 a2 c2,e=.returned (stateV D.rev D.mark (.slice a1 D.kvs.length c1) (.slice a2 D.events.length c2))/\SlF w' 99 6 kvC (.slice a1 D.kvs.length c1) D.kvs/\SlF w' 101 13 evC (.slice a2 D.events.length c2) D.events/\Fr No w w'/\(∀ b,(Value.slice a1 D.kvs.length c1).ownBlock=some b->w.heap.size<=b)/\(∀ b,(Value.slice a2 D.events.length c2).ownBlock=some b->w.heap.size<=b):=by
 refine (zqn hT (n:=20000 * k) (by omega) w s S F hS h.ok (by have:=h.size;omega)).mono ?_;rintro e w' ⟨kv,i,rfl,c,a,d,g,f⟩;rw [zfd h] at c;rw [h.cpl.events] at a;obtain ⟨a1,c1,rfl,_,_,_⟩:=c.shape;obtain ⟨a2,c2,rfl,_,_,_⟩:=a.shape;exact ⟨a1,c1,a2,c2,by rw [h.rev,h.cpl.mark],c,a,d,g,f⟩
def zrt (TA:zaq) (l:List CalQ) (w:World) (e:Ending) (w':World):Prop:=∃ s a1 c1 a2 c2 b,e=.returned (.tuple #[.pointer (some ⟨s,0,none⟩),docV (donesT l l.length).2 (.slice a1 (donesT l l.length).2.kvs.length c1) (.slice a2 (donesT l l.length).2.events.length c2),.bool b]) ∧
 SlF w' 99 6 kvC (.slice a1 (donesT l l.length).2.kvs.length c1) (donesT l l.length).2.kvs/\SlF w' 101 13 evC (.slice a2 (donesT l l.length).2.events.length c2) (donesT l l.length).2.events/\(b=true↔zbi (donesT l l.length).2) ∧
 ∃ F,zak TA w' s (donesT l l.length).1 F/\Fr No w w'/\(∀ b,F b->w.heap.size<=b)/\(∀ b,(Value.slice a1 (donesT l l.length).2.kvs.length c1).ownBlock=some b->¬ F b/\w.heap.size<=b)/\(∀ b,(Value.slice a2 (donesT l l.length).2.events.length c2).ownBlock=some b->¬ F b/\w.heap.size<=b)
set_option maxHeartbeats 8000000 in
theorem zlg {TA:zaq} (hT:TreeOk TA 1000000) (hTD:TreeDl TA) (w:World) (v:Value) (l:List CalQ) (hv:CalR w v l) (hf:zbh l=true) (hsm:DocSm (donesT l l.length).2) :
 Calls Tryz.prog 30 #[v] w (zrt TA l w):=by
 obtain ⟨Y,h2⟩:=zbm hf;have am:=zdg hf;obtain ⟨hv,f,c⟩:=hv;obtain ⟨a,cap,rfl,bn,bw,ha⟩:=hv.shape;have HV:=H_ hv;have HA:=H_ ha;have HO:=H_ f;have HK:=H_ c;have HG:=H_ am;have H2:=H_ h2;clear hv ha f c am hf h2;have ah:=H_ hsm;clear hsm;have ar:=zad w (Obj.cells #[.int .i64 0,.int .i64 0,.slice none 0 0,.slice none 0 0] 30) _ rfl;have af:Fr No w (w.alloc (Obj.cells #[.int .i64 0,.int .i64 0,.slice none 0 0,.slice none 0 0] 30)):=(Fr.refl No w).alloc _;have ax:=H_ ar;have aG:=H_ af;clear ar af;go_enter Tryz.func30,Tryz.ntmps30;go_wp2_with (go_at_call 17;refine (zgk hT _).mono ?_;rintro e w1 ⟨s,rfl,F0,ab,Q,a6⟩);have aQ:Hid (zak TA w1 s (donesT l 0).1 F0):=H_ ab;have aR:Hid (∀ b,F0 b->w.heap.size+1<=b):=H_ (fun b hb=>by have:=a6 b hb;simpa using this)
 have aD:=H_ (Q.heap ax.out id);have aK:=H_ (aG.out.trans0 Q);clear ab a6 Q
 go_loopg [6] l.length (fun g s6 wr=>∃ (i:Nat) (F:Nat->Prop),s6=.int .i64 i/\i+g=l.length/\Hid (zak TA wr s (donesT l i).1 F)/\Hid (Fr No w wr)/\Hid (∀ b,F b->w.heap.size+1<=b)/\Hid (wr.heap[w.heap.size]?=some (.cells #[.int .i64 0,.int .i64 0,.slice none 0 0,.slice none 0 0] 30 (0,0))))
 case atStart=>exact ⟨0,F0,rfl,by simp,aQ,aK,aR,aD⟩
 case round =>
  obtain ⟨i,F,rfl,hi,HS,E,V,x⟩:=hrel
  cases gk with
  | zero =>
    have aF:¬ (i:Int)<(l.length:Int):=(by omega);have ay:i=l.length:=(by omega);subst ay;have hG:=HG.out l.length (Nat.le_refl _);have L:=zid hT hG (by omega) wr s F HS.out;generalize ag:donesT l l.length=SD at *;obtain ⟨S,D⟩:=SD;have aN:=H_ ag;clear ag;dsimp only at hG L ah HS ⊢
    have aM:=H_ L;clear L hG;go_upto_region 7 with (go_at_call 23;with_reducible refine aM.out.mono ?_;rintro e z ⟨a1,t,a2,r,rfl,I,M,p,a4,A⟩;unfold stateV);have O:=p.heap x.out id;have bM:=zaa O;have aj:=HS.out.fr0 hT p;have C:=HS.out.lt hT;have aY:=p.size;have J:Hid (∀ W,Fr No z W->Calls Tryz.prog 25 #[docV D (.slice a1 D.kvs.length t) (.slice a2 D.events.length r)] W (RightR D W)):=H_ fun W hW=>zkh W D _ _ ⟨(I.toR zae).fr0 hW,(M.toR zac).fr0 hW⟩ ah.out;unfold docV at J;have N:=fun W=>zjd W D.rev D.mark D.kvs.length D.events.length t r a1 a2;unfold stateV at N;have a3:=H_ N;have aH:=H_ I;have aT:=H_ M;have aI:=H_ aj;have aJ:=H_ (E.out.trans0 p);have ad:=H_ O;have R:=H_ a4;have H:=H_ A;have aa:=H_ C;have aW:=J
    clear I M aj p O a4 A C N J;have an:Fr No z (z.alloc (Obj.cells #[.int .i64 D.rev,.int .i64 D.mark,.slice a1 D.kvs.length t,.slice a2 D.events.length r] 42)):=(Fr.refl No z).alloc _;have K:=zad z (Obj.cells #[.int .i64 D.rev,.int .i64 D.mark,.slice a1 D.kvs.length t,.slice a2 D.events.length r] 42) _ rfl;generalize z.alloc (Obj.cells #[.int .i64 D.rev,.int .i64 D.mark,.slice a1 D.kvs.length t,.slice a2 D.events.length r] 42)=B at *;generalize z.heap.size=u at *;obtain ⟨k0,k1,k2,k3⟩:=cells4 K;have br:=zaa K;have y:=H_ an;clear K an
    have HQ:Hid (∀ W,Fr No B W->W.cell? ⟨u,0,none⟩=some (.int .i64 D.rev)/\W.cell? ⟨u,1,none⟩=some (.int .i64 D.mark)/\W.cell? ⟨u,2,none⟩=some (.slice a1 D.kvs.length t)/\W.cell? ⟨u,3,none⟩=some (.slice a2 D.events.length r)):=H_ fun W hW=>⟨hW.cell0 k0,hW.cell0 k1,hW.cell0 k2,hW.cell0 k3⟩;have q1:=HQ.out _ (Fr.refl No B);have q2:=HQ.out _ (Fr.refl No B).drew;have C1:=H_ (a3.out B.drew)
    go_region_held3 (fun W=>W.cell? ⟨u,0,none⟩=some (.int .i64 D.rev)/\W.cell? ⟨u,1,none⟩=some (.int .i64 D.mark)/\W.cell? ⟨u,2,none⟩=some (.slice a1 D.kvs.length t)/\W.cell? ⟨u,3,none⟩=some (.slice a2 D.events.length r))
     (first | with_reducible exact q1 | with_reducible exact q2 | with_reducible exact q4 | with_reducible exact q5 | with_reducible exact U | with_reducible exact q7)
     (first
       | (go_at_call 22;(with_reducible refine C1.out.mono ?_);rintro e w4 ⟨rfl,aq⟩
          have h4:Fr No B w4:=(Fr.refl No B).drew.trans0 aq;have q4:=HQ.out _ h4;have C2:=H_ (a3.out w4);have H4:=H_ h4;clear aq h4)
       | (go_at_call 22;(with_reducible refine C2.out.mono ?_);rintro e w5 ⟨rfl,a0⟩
          have h5:Fr No B w5:=H4.out.trans0 a0;have q5:=HQ.out _ h5;have C3:=H_ (aW.out w5 (y.out.trans0 h5));have H5:=H_ h5;clear a0 h5)
       | (go_at_call 25;(with_reducible refine C3.out.mono ?_);rintro e P ⟨b,rfl,ai,al⟩
          have h6:Fr No B P:=H5.out.trans0 al;have U:=HQ.out _ h6;have z6:=h6.heap (y.out.heap ad.out id) id;obtain ⟨y0,y1,y2,y3⟩:=cells4 z6;have yf:∀ i,P.frozen? ⟨w.heap.size,i,none⟩=false:=fun i=>by unfold World.frozen?;dsimp only;rw [z6];simp
          have ly:=zaa z6;have m:Fr (fun b=>b=w.heap.size) P ((((P.setCell ⟨w.heap.size,0,none⟩ (.int .i64 D.rev)).setCell ⟨w.heap.size,1,none⟩ (.int .i64 D.mark)).setCell ⟨w.heap.size,2,none⟩ (.slice a1 D.kvs.length t)).setCell ⟨w.heap.size,3,none⟩ (.slice a2 D.events.length r)):=((((Fr.refl _ P).setAt 0 _).setAt 1 _).setAt 2 _).setAt 3 _;have q7:=And.intro (m.cell U.1 (fun e=>by have X:u=w.heap.size:=e;omega)) (And.intro (m.cell U.2.1 (fun e=>by have X:u=w.heap.size:=e;omega)) (And.intro (m.cell U.2.2.1 (fun e=>by have X:u=w.heap.size:=e;omega)) (m.cell U.2.2.2 (fun e=>by have X:u=w.heap.size:=e;omega))));have G:=H_ m;clear m;have H6:=H_ h6;have Z6:=H_ z6;have aE:=H_ ai;clear al h6 z6 ai))
    have z0:=zab Z6.out 0 (.int .i64 D.rev);have z1:=zab z0 1 (.int .i64 D.mark);have z2:=zab z1 2 (.slice a1 D.kvs.length t);have z3:=zab z2 3 (.slice a2 D.events.length r);have n:=G.out;clear z0 z1 z2 q1 q2 q4 q5 U q7 k0 k1 k2 k3 y0 y1 y2 y3 yf G;generalize ((((P.setCell ⟨w.heap.size,0,none⟩ (.int .i64 D.rev)).setCell ⟨w.heap.size,1,none⟩ (.int .i64 D.mark)).setCell ⟨w.heap.size,2,none⟩ (.slice a1 D.kvs.length t)).setCell ⟨w.heap.size,3,none⟩ (.slice a2 D.events.length r))=Z at *;simp at z3;have bq:=H_ z3;obtain ⟨c0,aP,aS,aU⟩:=cells4 z3;clear z3;go_wp2;have j:Fr No w P:=aJ.out.trans0 (y.out.trans0 H6.out)
    have aO:Fr No w Z:=⟨n.os.trans j.os,n.tape.trans j.tape,n.output.trans j.output,Nat.le_trans j.size n.size,fun k hk _=>(n.block k (Nat.lt_of_lt_of_le hk j.size) (fun e=>by have X:k=w.heap.size:=e;omega)).trans (j.block k hk id)⟩;have T:Fr (fun b=>b=w.heap.size) z Z:=((y.out.trans0 H6.out).mono (fun _ _ h=>h.elim)).trans n fun _ _ h=>h;refine bodyPost_ret (v:=.tuple #[.pointer (some ⟨s,0,none⟩),docV D (.slice a1 D.kvs.length t) (.slice a2 D.events.length r),.bool b]) ?_ rfl ?_
    · unfold docV
      simp [results,Tryz.results30,go_sem,c0,aP,aS,aU]
    unfold zrt
    rw [aN.out];have ak:∀ b,F b->w.heap.size<=b/\b≠w.heap.size:=fun b hb=>by have:=V.out b hb;omega
    refine ⟨s,a1,t,a2,r,b,rfl,aH.out.fr T (fun b hb e=>?_),aT.out.fr T (fun b hb e=>?_),aE.out,F,aI.out.fr hT T (fun b hb e=>(ak b hb).2 e),aO,fun b hb=>(ak b hb).1,fun b hb=>⟨fun h=>?_,?_⟩,fun b hb=>⟨fun h=>?_,?_⟩⟩
    · have Y:=R.out b hb;have X:b=w.heap.size:=e;have:=zaa x.out;omega
    · have Y:=H.out b hb;have X:b=w.heap.size:=e;have:=zaa x.out;omega
    · have Y:=R.out b hb;have:=aa.out b h;omega
    · have Y:=R.out b hb;have:=E.out.size;omega
    · have Y:=H.out b hb;have:=aa.out b h;omega
    have Y:=H.out b hb;have:=E.out.size;omega
  | succ g =>
    obtain ⟨gb,go,rfl⟩:=HA.out (by omega);obtain ⟨q,o⟩:∃ q,l[i]?=some q:=⟨_,List.getElem?_eq_getElem (by omega)⟩;have d:=HV.out.fr0 E.out;have x0:=d.cell0 zav i o rfl;have x1:=d.cell zav i 1 o rfl;have x2:=d.cell zav i 2 o rfl;have x3:=d.cell zav i 3 o rfl;have x4:=d.cell zav i 4 o rfl;have x5:=d.cell zav i 5 o rfl;have x6:=d.cell zav i 6 o rfl;have x7:=d.cell zav i 7 o rfl;have x8:=d.cell zav i 8 o rfl;have x9:=d.cell zav i 9 o rfl;have bm:=d.cell zav i 10 o rfl;have bK:=d.cell zav i 11 o rfl;have aF:(i:Int)<(l.length:Int):=(by omega);have f:=HO.out i q o;have c:=HK.out i q o
    have a9:=zyk hT hTD (HG.out i (by omega)) (by omega) wr s F HS.out q (H2.out q (List.mem_of_getElem? o)) (f.fr0 E.out) (c.fr0 E.out)
     (fun hp b hb hF=>by have:=f.lt zaf (by decide) hp b hb;have:=V.out b hF;omega) (fun hp b hb hF=>by have:=c.lt zej (by decide) hp b hb;have:=V.out b hF;omega)
    have a7:=zdk l o;obtain ⟨oa,b7,ae,_,_,_⟩:=f.shape;obtain ⟨ka,bh,a5,_,_,_⟩:=c.shape;have aA:=H_ a9;have az:=H_ a7;clear a9 a7 o d f c;obtain ⟨⟨p1,p2,⟨g1,g2,g3,g4,g5,g6,g7⟩,p3,p4,p5⟩,bD,bc⟩:=q;dsimp only at ae a5;subst ae a5;unfold calC rgC at *;dsimp only at *;go_wp2_with (go_at_call 27;refine aA.out.mono ?_;rintro e z ⟨rfl,F2,aC,p,A⟩);go_roundg g
    case rel =>
     have bL:=E.out.size;have bx:=zaa x.out
     exact ⟨i+1,F2,by go_num,by omega,H_ (by rw [az.out];exact aC),H_ (E.out.trans p fun b hb h=>by have:=V.out b h;omega),H_ fun b hb=>by
      rcases A b hb with h | h
      · exact V.out b h
      omega,H_ (p.heap x.out (fun h=>by have:=V.out _ h;omega))⟩
    case measure=>omega
def PrevOk (D:Doc):Prop:=∀ e∈D.events,e.prev=kv0\/e.prev.key=e.kv.key
theorem zxr {l:List Kv} {k:ByteArray}:(hasL l k).getD kv0=kv0\/((hasL l k).getD kv0).key=k:=by
 unfold hasL
 cases h:l.find? fun x=>keq x.key k with
 | none=>exact .inl rfl
 | some y =>
   have:=List.find?_some h;exact .inr (zas.1 this)
theorem PrevOk.cut {D:Doc} (h:PrevOk D) (R:Int):PrevOk (D.cut R):=fun e he=>h e (List.mem_filter.1 he).1
theorem DocOk.prevs {n:Nat} {D:Doc} (h:DocOk n D) {e:Ev} (he:e∈D.events) (hm:D.mark<e.kv.mod):e.prev=kv0\/e.prev.key=e.kv.key:=by
 obtain ⟨A,B,a⟩:=List.append_of_mem he;rw [h.prev A e B a hm];exact zxr
theorem PrevOk.adds {n:Nat} {D:Doc} {E:List Ev} (h:PrevOk D) (hd:DocOk n (D.adds E)) (hm:∀ e∈E,e.kv.mod=D.rev+1) (hmr:D.mark<=D.rev):PrevOk (D.adds E):=by
 obtain ⟨a,b,c⟩:=Doc.adds_parts D E;intro e g;have d:=g;rw [c] at d;rcases List.mem_append.1 d with f | f
 · exact h e f
 exact hd.prevs g (by rw [a,hm e f];omega)
theorem zuo {k:Nat} {S:St} {D:Doc} (h:Good k S D) (hk:k<=70) {q:CalQ} (hq:fewCal q=true) (hD:PrevOk D):PrevOk (doD S D q):=by
 obtain ⟨c,g,d,f,i⟩:=zfu hq;have b:=h.cpl.m0;unfold doD;by_cases h4:kindN q.1.kind=4
 · rw [if_pos h4];exact hD
 rw [if_neg h4]
 by_cases h5:kindN q.1.kind=5
 · rw [if_pos h5]
   split
   · exact hD.cut _
   exact hD
 rw [if_neg h5]
 by_cases h6:kindN q.1.kind=6
 · rw [if_pos h6];exact hD
 rw [if_neg h6]
 by_cases h7:kindN q.1.kind=7
 · rw [if_pos h7]
   obtain ⟨a,_⟩:=h.drops hk q.2.2 d q.2.2.length (Nat.le_refl _);have e:dropTo (D.rev+1) S q.2.2 q.2.2.length=q.2.2.foldl (dropR (D.rev+1)) (S,[]):=(by unfold dropTo;rw [List.take_length]);rw [e] at a;exact hD.adds a.doc a.mods b.2
 rw [if_neg h7]
 by_cases ha:applyE S q.2.1=0
 · rw [if_pos ha]
   obtain ⟨⟨a,_⟩,_⟩:=h.runs hk (zbe ha).1 (fun o ho=>by have:=(c o ho).1;omega) q.2.1.length (Nat.le_refl _);rw [List.take_length] at a;exact hD.adds a.doc a.mods b.2
 rw [if_neg ha];exact hD
theorem zsx {l:List CalQ} (h:zbh l=true):∀ i≤ l.length,PrevOk (donesT l i).2:=by
 obtain ⟨g,b⟩:=zbm h;have c:=zdg h;intro i
 induction i with
 | zero=>intro _ e d;simp [donesT,newD] at d
 | succ i ih =>
   intro f;obtain ⟨q,a⟩:∃ q,l[i]?=some q:=⟨_,List.getElem?_eq_getElem (by omega)⟩;rw [zdk l a];exact zuo (c i (by omega)) (by omega) (b q (List.mem_of_getElem? a)) (ih (by omega))
theorem zxx {l:List CalQ} (h:zbh l=true):DocSm (donesT l l.length).2:=by
 obtain ⟨g,_⟩:=zbm h;have a:=zdg h l.length (Nat.le_refl _);have b:=zhw h l.length (Nat.le_refl _);have c:=zsx h l.length (Nat.le_refl _);generalize donesT l l.length=i at *;obtain ⟨S,D⟩:=i;dsimp only at a b c ⊢
 refine ⟨fun k hk=>?_,fun x hx=>⟨?_,?_⟩,?_⟩
 · have:=(zjn (b.kvs k hk)).2;omega
 · have:=(zjn (b.evs x hx)).2;omega
 · have j:=(zjn (b.evs x hx)).2
   rcases c x hx with e | e
   · rw [e];show ByteArray.empty.size<=_;exact Nat.zero_le _
   rw [e];omega
 have d:D.events.length<=20000 * l.length:=by have:=a.ok.ev;rw [<-a.cpl.events];omega
 have f:D.kvs.length<=16 * l.length:=by
  have g:=a.size;rw [<-zfd a];unfold zan;exact Nat.le_trans (List.length_filterMap_le _ _) (by omega)
 omega
def noneC:Cmp:=⟨bA,2,0,0,ByteArray.empty⟩
def oneC:Cmp:=⟨bA,1,0,1,ByteArray.empty⟩
def sixC:Cmp:=⟨bA,6,0,0,ByteArray.empty⟩
def S1:St:=applyS st0 [putO bA b1]
def S2:St:=applyS S1 [putO bB b2]
theorem chk_e:txnE [sixC] [] []=1:=by kernel_rfl
theorem S2_rev:S2.rev=2:=by kernel_rfl
theorem zxq:holdsB S2 oneC=true:=by kernel_rfl
theorem S2_len:S2.T.length=2:=by kernel_rfl
theorem zzj:applyS S1 [getO bA]=S1:=by kernel_rfl
theorem zuh:((runR (S1.rev+1) ⟨S1,[],[]⟩ [getO bA]).A).map (fun a=>(a.kvs.length,a.count)) = [(1,1)]:=by kernel_rfl
theorem zfl (w:World) (k v:ByteArray):Calls Tryz.prog 74 #[.string k,.string v] w fun e w'=>e=.returned (opV (putO k v))/\Fr No w w':=by
 go_enter Tryz.func74,Tryz.ntmps74;go_wp2;exact bodyPost_ret (results_cell_row rfl _ _ w.heap.size 94 _ (0,0) _ rfl (zad _ _ _ rfl) Tryz.underlying94 rfl (by kernel_rfl)) rfl ⟨rfl,(Fr.refl No w).alloc _⟩
theorem zqw {W:World} {b:Nat} {o:Cmp} {t:TypeId} (h:W.heap[b]?=some (.cells (cmpC o).toArray t (0,0))):SlR W 5 cmpC (.slice (some ⟨b,0,none⟩) 1 1) [o]:=by
 refine ⟨_,1,rfl,by simp,by decide,fun _=>⟨b,0,rfl,fun i x hx j u hu=>?_⟩⟩;obtain ⟨rfl,rfl⟩:=zux hx;unfold World.cell?;simp only [h,Nat.zero_mul,Nat.zero_add,Option.isSome_none,Bool.false_eq_true,if_false];simpa using hu
theorem zzd:branch S1 [noneC] [putO bA b2] [getO bA] = [getO bA]:=by kernel_rfl
theorem zzc:branch S1 [] [putO bB b2] [] = [putO bB b2]:=by kernel_rfl
theorem zyg:allB S1 [noneC]=false:=by kernel_rfl
theorem zuj:runE S1 [noneC] [putO bA b2] [getO bA]=0:=by kernel_rfl
theorem zui:runE S1 [] [putO bB b2] []=0:=by kernel_rfl
theorem zyf:allB S1 []=true:=by kernel_rfl
theorem zvz:applyE newS [putO bA b1]=0:=by kernel_rfl
theorem zzg:applyE S1 [putO bB b2]=0:=by kernel_rfl
theorem zmj:∃ D,Good 1 S1 D:=⟨_,Good.new.apply (by omega) (zbe zvz).1 (by decide)⟩
theorem zyi:∃ D,Good 2 S2 D:=by
 obtain ⟨D,h⟩:=zmj;exact ⟨_,h.apply (by omega) (zbe zzg).1 (by decide)⟩
theorem ztj {TA:zaq} (hT:TreeOk TA 1000000) (w:World) (s:Nat) (F:Nat->Prop) (hS:zak TA w s st0 F) (v:Value) (hv:SlR w 10 opC v [putO bA b1])
 (hvF:0 < [putO bA b1].length->∀ b,v.ownBlock=some b->¬ F b) :
 Calls Tryz.prog 37 #[.pointer (some ⟨s,0,none⟩),v] w fun e w'=>∃ av ev,e=.returned (.tuple #[av,ev,.int .i64 0])/\∃ F' Z,zak TA w' s S1 F'/\AnsR w' av Z ∧
  Z.map (·.1)=(runR (newS.rev+1) ⟨newS,[],[]⟩ [putO bA b1]).A/\SlF w' 101 13 evC ev (runR (newS.rev+1) ⟨newS,[],[]⟩ [putO bA b1]).E/\Fr F w w'/\(∀ b,F' b->F b\/w.heap.size<=b) ∧
  (∀ b,ev.ownBlock=some b->w.heap.size<=b/\¬ F' b)/\(∀ b,ansF av Z b->w.heap.size<=b/\¬ F' b):=by
 have h:=zie hT Good.new (by omega) w s F hS v [putO bA b1] hv hvF (by decide) (by decide);rw [zvz] at h;simp only [if_true] at h;exact h
theorem zws {TA:zaq} (hT:TreeOk TA 1000000) (W:World) (s p q r:Nat) (F1:Nat->Prop) (hS:zak TA W s S1 F1) (hp:W.heap[p]?=some (.cells (cmpC noneC).toArray 53 (0,0))) (hq:W.heap[q]?=some (.cells (opC (putO bA b2)).toArray 94 (0,0)))
 (hr:W.heap[r]?=some (.cells (opC (getO bA)).toArray 94 (0,0))) (nq:¬ F1 q) (nr:¬ F1 r) :
 Calls Tryz.prog 33 #[.pointer (some ⟨s,0,none⟩),.slice (some ⟨p,0,none⟩) 1 1,.slice (some ⟨q,0,none⟩) 1 1,.slice (some ⟨r,0,none⟩) 1 1] W fun e w'=>∃ g o cap ev F',e=.returned (.tuple #[.bool false,.slice (some ⟨g,o,none⟩) 1 cap,ev,.int .i64 0]) ∧
  zak TA w' s S1 F'/\w'.cell? ⟨g,o+2,none⟩=some (.int .i64 1)/\Fr F1 W w'/\(∀ b,F' b->F1 b\/W.heap.size<=b)/\W.heap.size<=g/\¬ F' g:=by
 obtain ⟨D,t⟩:=zmj
 have h:=zqp hT t (by omega) W s F1 hS _ _ _ [noneC] [putO bA b2] [getO bA] (zqw hp) (zli hq) (zli hr)
  (fun _ b hb=>by simp [Value.ownBlock] at hb;rw [<-hb];exact nq) (fun _ b hb=>by simp [Value.ownBlock] at hb;rw [<-hb];exact nr) (by decide) (by decide) (by decide) (by decide) (by decide) (by decide)
 unfold RunR RunRE at h;rw [zuj,zzd,zyg] at h;simp only [if_true,decide_true,Bool.true_and] at h;refine h.mono ?_;rintro e w' ⟨y,ev,rfl,F',Z,i,f,v,A,w,m,B,n⟩;rw [zzj] at i
 have d:Z.map (fun q=>(q.1.kvs.length,q.1.count)) = [(1,1)]:=by
  have k:=congrArg (List.map fun a:Ans=>(a.kvs.length,a.count)) v;rw [zuh,List.map_map] at k;exact k
 obtain ⟨z,rfl⟩:=List.length_eq_one_iff.1 (show Z.length=1 by have:=congrArg List.length d;simpa using this);simp only [List.map_cons,List.map_nil,List.cons.injEq,Prod.mk.injEq,and_true] at d;obtain ⟨a,cap,rfl,x,u,c⟩:=f.sl.shape;obtain ⟨g,o,rfl⟩:=c (by simp);have l:=f.sl.cell zbn 0 2 rfl rfl;rw [d.2] at l;have j:=n g (.inl rfl);exact ⟨g,o,cap,ev,F',rfl,i,by simpa using l,w,m,j.1,j.2⟩
theorem zwr {TA:zaq} (hT:TreeOk TA 1000000) (W:World) (s q:Nat) (F1:Nat->Prop) (hS:zak TA W s S1 F1) (hq:W.heap[q]?=some (.cells (opC (putO bB b2)).toArray 94 (0,0))) (nq:¬ F1 q) :
 Calls Tryz.prog 33 #[.pointer (some ⟨s,0,none⟩),.slice none 0 0,.slice (some ⟨q,0,none⟩) 1 1,.slice none 0 0] W fun e w'=>∃ av a cap F',e=.returned (.tuple #[.bool true,av,.slice a 1 cap,.int .i64 0]) ∧
  zak TA w' s S2 F'/\Fr F1 W w':=by
 obtain ⟨D,f⟩:=zmj
 have h:=zqp hT f (by omega) W s F1 hS _ _ _ [] [putO bB b2] [] (SlR.nil _ _ _) (zli hq) (SlR.nil _ _ _)
  (fun _ b hb=>by simp [Value.ownBlock] at hb;rw [<-hb];exact nq) (fun h=>by cases h) (by decide) (by decide) (by decide) (by decide) (by decide) (by decide)
 unfold RunR RunRE at h;rw [zui,zzc,zyf] at h;simp only [if_true,decide_true,Bool.true_and] at h;refine h.mono ?_;rintro e w' ⟨av,o,rfl,F',Z,c,k,r,j,i,m,p,n⟩;obtain ⟨a,cap,rfl,l,g,d⟩:=j.shape;exact ⟨av,a,cap,F',rfl,c,i⟩
set_option maxHeartbeats 4000000 in
theorem zdp {TA:zaq} (hT:TreeOk TA 1000000) (w:World):Calls Tryz.prog 29 #[] w fun e w'=>e=.returned (.bool true)/\Fr No w w':=by
 go_enter Tryz.func29,Tryz.ntmps29
 go_upto_region 5 with (first
  | (go_at_call 17;refine (zgk hT _).mono ?_;rintro e w1 ⟨s,rfl,F0,B,H,C⟩)
  | (go_at_call 74;refine (zfl _ _ _).mono ?_;rintro e w2 ⟨rfl,j⟩;unfold opV putO rg0;dsimp only)
  | (go_at_call 37;refine (ztj hT _ s F0 ((B.fr0 hT j).fr0 hT ((Fr.refl No w2).alloc _)) _ (zli (zad _ _ _ rfl)) (fun _ b hb h=>by
      have h1:=B.lt hT _ h;have h2:=j.size;simp [Value.ownBlock] at hb;omega)).mono ?_
     rintro e a ⟨av,ev,rfl,q,Z,V,al,ao,am,L,a4,U,I⟩))
 have hS:zak TA a s S1 q:=V;have a0:Fr No w a:=((H.trans0 j).alloc _).trans L fun b hb h=>by have:=C b h;omega
 have Q:w.heap.size<=w2.heap.size:=(H.trans0 j).size
 have P:∀ b,q b->w.heap.size<=b:=fun b hb=>by
  rcases a4 b hb with h | h
  · exact C b h
  simp at h;omega
 clear B H C j V al ao am L a4 U I Q;have r:((a.alloc (Obj.cells (cmpC oneC).toArray 53)).alloc (Obj.cells (cmpC noneC).toArray 53)).heap[a.heap.size]?=some (.cells (cmpC oneC).toArray 53 (0,0)):=zaj (zad _ _ _ rfl) _;have m:((a.alloc (Obj.cells (cmpC oneC).toArray 53)).alloc (Obj.cells (cmpC noneC).toArray 53)).heap[a.heap.size+1]?=some (.cells (cmpC noneC).toArray 53 (0,0)):=zad _ _ _ (by simp);have t:Fr No a ((a.alloc (Obj.cells (cmpC oneC).toArray 53)).alloc (Obj.cells (cmpC noneC).toArray 53)):=((Fr.refl No a).alloc _).alloc _
 have z:((a.alloc (Obj.cells (cmpC oneC).toArray 53)).alloc (Obj.cells (cmpC noneC).toArray 53))=((a.alloc (Obj.cells #[Value.string ⟨#[97]⟩,.int .i64 1,.int .i64 0,.int .i64 1,.string ⟨#[]⟩] 53)).alloc (Obj.cells #[Value.string ⟨#[97]⟩,.int .i64 2,.int .i64 0,.int .i64 0,.string ⟨#[]⟩] 53)):=rfl;rw [z] at r m t;clear z;generalize ((a.alloc (Obj.cells #[Value.string ⟨#[97]⟩,.int .i64 1,.int .i64 0,.int .i64 1,.string ⟨#[]⟩] 53)).alloc (Obj.cells #[Value.string ⟨#[97]⟩,.int .i64 2,.int .i64 0,.int .i64 0,.string ⟨#[]⟩] 53))=u at r m t ⊢
 have k:∀ W,Fr q u W->W.cell? ⟨a.heap.size+1,0,none⟩=some (.string ⟨#[97]⟩)/\W.cell? ⟨a.heap.size+1,1,none⟩=some (.int .i64 2)/\W.cell? ⟨a.heap.size+1,2,none⟩=some (.int .i64 0)/\W.cell? ⟨a.heap.size+1,3,none⟩=some (.int .i64 0) ∧
  W.cell? ⟨a.heap.size+1,4,none⟩=some (.string ByteArray.empty):=by
  intro W hW;have h:=hW.heap m (fun h=>by have:=hS.lt hT _ h;omega);simp [World.cell?,h,cmpC,noneC,bA]
 have l:=H_ k;have ag:=H_ r;have HS:=H_ hS;have N:=H_ t;have a2:=H_ a0;have a8:=H_ P;have aJ:a.heap.size+2<=u.heap.size:=by have:=zaa m;omega
 have x:=H_ (hS.lt hT);clear k r m hS t a0 P
 go_cut [4,5,7] (fun s4 s5 s7 wx=>s4=.bool false/\s7=.int .i64 0/\∃ (g o cap:Nat) (f:Nat->Prop),s5=.slice (some ⟨g,o,none⟩) 1 cap/\Hid (zak TA wx s S1 f)/\wx.cell? ⟨g,o+2,none⟩=some (.int .i64 1)/\Hid (Fr q u wx) ∧
  Hid (∀ b,f b->q b\/u.heap.size<=b)/\Hid (u.heap.size<=g/\¬ f g))
 case first =>
  go_region_held3 (fun W=>W.cell? ⟨a.heap.size+1,0,none⟩=some (.string ⟨#[97]⟩)/\W.cell? ⟨a.heap.size+1,1,none⟩=some (.int .i64 2)/\W.cell? ⟨a.heap.size+1,2,none⟩=some (.int .i64 0)/\W.cell? ⟨a.heap.size+1,3,none⟩=some (.int .i64 0) ∧
   W.cell? ⟨a.heap.size+1,4,none⟩=some (.string ByteArray.empty))
   (first | ((refine l.out _ ?_);(repeat (first | with_reducible exact Fr.refl _ _ | with_reducible exact A | with_reducible refine Fr.alloc ?_ _ | with_reducible refine Fr.drew ?_ | (with_reducible refine Fr.trans0 ?_ (by with_reducible assumption))));done))
   (first
     | (go_at_call 74;refine (zfl _ _ _).mono ?_;rintro e w4 ⟨rfl,y⟩;unfold opV putO rg0;dsimp only)
     | (go_at_call 33
        have aG:u.heap.size<=w4.heap.size:=(by have:=y.size;simp at this;omega)
        refine (zws hT _ s _ _ _ q (HS.out.fr0 hT (N.out.trans0 (by (repeat (first | with_reducible exact Fr.refl _ _ | with_reducible refine Fr.alloc ?_ _ | with_reducible refine Fr.drew ?_ | (with_reducible refine Fr.trans0 ?_ (by with_reducible assumption))));done)))
         (by repeat (first | exact zad _ _ _ (by first | rfl | simp) | refine zaj ?_ _ | refine y.heap ?_ id)) (by repeat (first | exact zad _ _ _ (by first | rfl | simp) | refine zaj ?_ _ | refine y.heap ?_ id)) (by repeat (first | exact zad _ _ _ (by first | rfl | simp) | refine zaj ?_ _ | refine y.heap ?_ id))
         (fun h=>by have:=x.out _ h;omega) (fun h=>by have:=x.out _ h;omega)).mono ?_
        rintro e w5 ⟨g,o,cap,ev,f,rfl,aw,v,ad,ai,ae,ap⟩;have aa:∀ b,f b->q b\/u.heap.size<=b:=fun b hb=>(ai b hb).imp id (fun h=>by (try simp at h);omega);have ar:u.heap.size<=g:=(by (try simp at ae);omega);have A:Fr q u w5:=Fr.trans (S:=q) (T:=q) (by (repeat (first | with_reducible exact Fr.refl _ _ | with_reducible refine Fr.alloc ?_ _ | with_reducible refine Fr.drew ?_ | (with_reducible refine Fr.trans0 ?_ (by with_reducible assumption))));done) ad fun _ _ h=>h))
  all_goals
   go_wp2_with fail;go_meet
   case rel=>exact ⟨rfl,rfl,g,o,cap,f,rfl,H_ (aw.fr0 hT (by (repeat (first | with_reducible exact Fr.refl _ _ | with_reducible refine Fr.drew ?_));done)),v,H_ (A.trans0 (by (repeat (first | with_reducible exact Fr.refl _ _ | with_reducible refine Fr.drew ?_));done)),H_ aa,H_ ⟨ar,ap⟩⟩
 case rest =>
  obtain ⟨rfl,rfl,g,o,cap,f,rfl,O,v,R,a5,ah⟩:=hcut;have aq:=H_ (R.out.heap ag.out (fun h=>by have:=x.out _ h;omega))
  have n2:¬ f a.heap.size:=fun h=>by
   rcases a5.out _ h with h | h
   · have:=x.out _ h;omega
   omega
  have n3:∀ b,f b->w.heap.size<=b:=fun b h=>by
   have:=a2.out.size;rcases a5.out _ h with h | h
   · exact a8.out b h
   omega
  have lg:=World.block_lt_of_cell? _ _ v;have Y:Fr No w wc:=(a2.out.trans0 N.out).trans R.out fun b hb h=>by have:=a8.out b h;omega
  have au:=H_ Y;have an:=H_ n3;have a6:=H_ (O.out.lt hT);clear Y n3 l
  go_upto_region 7 with (first
   | (go_at_call 74;refine (zfl _ _ _).mono ?_;rintro e w6 ⟨rfl,G⟩;unfold opV putO rg0;dsimp only)
   | (go_at_call 33;refine (zwr hT _ s w6.heap.size f ((O.out.fr0 hT G).fr0 hT ((Fr.refl No w6).alloc _)) (zad _ _ _ rfl) (fun h=>by have:=a6.out _ h;have:=G.size;omega)).mono ?_
      rintro e F ⟨aK,a7,aA,F3,rfl,X,a1⟩;have c:Fr f wc F:=(((Fr.refl f wc).trans (G.mono fun _ _ h=>h.elim) fun _ _ h=>h).alloc _).trans a1 fun _ _ h=>h;have d:=H_ (c.heap aq.out n2);have M:=c.cell v ah.out.2;have K:=H_ X;have J:=H_ c;clear X c a1))
  have y0:F.cell? ⟨a.heap.size,0,none⟩=some (.string ⟨#[97]⟩):=(by simp [World.cell?,d.out,cmpC,oneC,bA]);have y1:F.cell? ⟨a.heap.size,1,none⟩=some (.int .i64 1):=(by simp [World.cell?,d.out,cmpC,oneC,bA]);have y2:F.cell? ⟨a.heap.size,2,none⟩=some (.int .i64 0):=(by simp [World.cell?,d.out,cmpC,oneC,bA]);have y3:F.cell? ⟨a.heap.size,3,none⟩=some (.int .i64 1):=(by simp [World.cell?,d.out,cmpC,oneC,bA]);have y4:F.cell? ⟨a.heap.size,4,none⟩=some (.string ByteArray.empty):=(by simp [World.cell?,d.out,cmpC,oneC,bA]);have ly:=zaa d.out;have aI:=World.block_lt_of_cell? _ _ M;obtain ⟨D2,aj⟩:=zyi;have i:=zoo hT (n:=20000 * 2) (by omega) F s S2 F3 K.out aj.ok (by rw [S2_len];omega) (by decide) oneC (by decide);rw [zxq] at i;unfold cmpV oneC bA at i;dsimp only at i
  have ak:=H_ i;have E:=fun (W:World) (p:Nat) (hp:W.heap[p]?=some (.cells (cmpC sixC).toArray 53 (0,0)))=>zgj W (.slice (some ⟨p,0,none⟩) 1 1) (.slice none 0 0) (.slice none 0 0) [sixC] [] [] (zqw hp) (SlR.nil _ _ _) (SlR.nil _ _ _) (by decide) (by decide) (by decide) (by decide) (by decide) (by decide);rw [chk_e] at E;have ab:=H_ E;clear i E
  go_wp2_with (first
   | (go_at_call 31;refine ak.out.mono ?_;rintro e w8 ⟨rfl,D⟩
      have aE:=D.cell0 M)
   | (go_at_call 19;refine (zkp w8 s S2 F3 (K.out.fr0 hT D)).mono ?_;rintro e w9 ⟨rfl,rfl⟩;rw [S2_rev])
   | (go_at_call 38;refine (ab.out _ w8.heap.size (zad _ _ _ rfl)).mono ?_;rintro e aH ⟨rfl,a3⟩))
  go_ret;refine ⟨rfl,(au.out.trans (J.out.trans0 (D.trans0 (((Fr.refl No w8).alloc _).trans0 a3))) fun b hb h=>?_)⟩;have:=an.out b h;omega
def rgz:Rg:=⟨ByteArray.empty,ByteArray.empty,0,0,false,false,false⟩
def calO (v:Value):Cal:=⟨0,v,rgz,0,0,.slice none 0 0⟩
def fewCmp (c:Cmp):Bool:=decide (c.key.size<=3000)&&decide (c.value.size<=3000)
def fewTxn (cs:List Cmp) (la lb:List Opr):Bool:=decide (cs.length<=30)&&zbh [(calO (.slice none 0 0),la,[]),(calO (.slice none 0 0),lb,[])]&&cs.all fewCmp
theorem zyb {W:World} {b:Nat} {va vb:Value} {la lb:List Opr} (h:W.heap[b]?=some (.cells ((calC (calO va,la,[]))++(calC (calO vb,lb,[]))).toArray 38 (0,0))) (ha:SlR W 10 opC va la) (hb:SlR W 10 opC vb lb) :
 CalR W (.slice (some ⟨b,0,none⟩) 2 2) [(calO va,la,[]),(calO vb,lb,[])]:=by
 have two:∀ (i:Nat) (x:Cal×List Opr×List ByteArray),[(calO va,la,[]),(calO vb,lb,[])][i]?=some x->(i=0/\x=(calO va,la,[]))\/(i=1/\x=(calO vb,lb,[])):=by
  intro i x a
  match i,a with
  | 0,a=>left;simp at a;exact ⟨rfl,a.symm⟩
  | 1,a=>right;simp at a;exact ⟨rfl,a.symm⟩
  | i+2,a=>simp at a
 refine ⟨⟨_,2,rfl,by simp,by decide,fun _=>⟨b,0,rfl,fun i x a j u hu=>?_⟩⟩,fun i q hq=>?_,fun i q hq=>?_⟩
 · unfold World.cell?
   simp only [h,Option.isSome_none,Bool.false_eq_true,if_false];rcases two i x a with ⟨rfl,rfl⟩ | ⟨rfl,rfl⟩
   · have c:j<12:=(List.getElem?_eq_some_iff.1 hu).1
     simp only [Nat.zero_mul,Nat.zero_add,List.getElem?_toArray];rw [List.getElem?_append_left (by exact c)];exact hu
   have c:j<12:=(List.getElem?_eq_some_iff.1 hu).1
   simp only [Nat.one_mul,Nat.zero_add,List.getElem?_toArray];rw [List.getElem?_append_right (by rw [zav];omega),zav,Nat.add_sub_cancel_left];exact hu
 · rcases two i q hq with ⟨rfl,rfl⟩ | ⟨rfl,rfl⟩
   · exact ha
   exact hb
 rcases two i q hq with ⟨rfl,rfl⟩ | ⟨rfl,rfl⟩
 · exact SlR.nil _ _ _
 exact SlR.nil _ _ _
set_option maxHeartbeats 2000000 in
theorem zod (w:World) (v va vb:Value) (cs:List Cmp) (la lb:List Opr) (hv:SlR w 5 cmpC v cs) (hva:SlR w 10 opC va la) (hvb:SlR w 10 opC vb lb) :
 Calls Tryz.prog 28 #[.agg #[v,va,vb]] w fun e w'=>e=.returned (.bool (fewTxn cs la lb))/\Fr No w w':=by
 obtain ⟨a,cap,rfl,N,O,J⟩:=hv.shape;obtain ⟨f,c,rfl,_,_,_⟩:=hva.shape;obtain ⟨j,d,rfl,_,_,_⟩:=hvb.shape;have M:=H_ hv;clear hv;have P:=H_ J;clear J;have r:=H_ hva;clear hva;have t:=H_ hvb;clear hvb;by_cases h30:30<cs.length
 · have u:(30:Int)<(cs.length:Int):=by omega
   have:fewTxn cs la lb=false:=(by unfold fewTxn;simp;omega);rw [this];go_enter Tryz.func28,Tryz.ntmps28;go_wp2;go_ret;exact ⟨rfl,(Fr.refl No w).alloc _⟩
 have u:¬ (30:Int)<(cs.length:Int):=by omega
 have K:fewTxn cs la lb=(zbh [(calO (.slice none 0 0),la,[]),(calO (.slice none 0 0),lb,[])]&&cs.all fewCmp):=by
  have o:decide (cs.length<=30)=true:=(by rw [decide_eq_true_eq];omega);unfold fewTxn;rw [o]
  rfl
 have k:=fun W (p:Nat) h1 h2 h3=>zhe W _ _ (zyb (b:=p) (va:=.slice f la.length c) (vb:=.slice j lb.length d) (la:=la) (lb:=lb) (W:=W) h1 h2 h3);have k:∀ W (p:Nat),_->_->_->Calls Tryz.prog 15 #[.slice (some ⟨p,0,none⟩) 2 2] W fun e w'=>e=.returned (.bool (zbh [(calO (.slice none 0 0),la,[]),(calO (.slice none 0 0),lb,[])]))/\W=w':=k;generalize zbh [(calO (.slice none 0 0),la,[]),(calO (.slice none 0 0),lb,[])]=L at *;have C:=H_ K;clear K;have y:=H_ k;clear k;cases L
 · go_enter Tryz.func28,Tryz.ntmps28
   go_wp2_with (go_at_call 15;refine (y.out _ (w.heap.size+1) (zad _ _ _ (by simp)) ((r.out.alloc _).alloc _) ((t.out.alloc _).alloc _)).mono ?_;rintro e w' ⟨rfl,rfl⟩);go_ret;exact ⟨by rw [C.out];rfl,((Fr.refl No w).alloc _).alloc _⟩
 go_enter Tryz.func28,Tryz.ntmps28
 go_wp2_with (go_at_call 15;refine (y.out _ (w.heap.size+1) (zad _ _ _ (by simp)) ((r.out.alloc _).alloc _) ((t.out.alloc _).alloc _)).mono ?_;rintro e w' ⟨rfl,rfl⟩)
 go_loopg [3] cs.length (fun g s3 wr=>∃ i:Nat,s3=.int .i64 i/\i+g=cs.length/\Hid ((cs.take i).all fewCmp=true)/\wr=(w.alloc (Obj.cells #[.slice a cs.length cap,.slice f la.length c,.slice j lb.length d] 57)).alloc (Obj.cells ((calC (calO (.slice f la.length c),la,[]))++(calC (calO (.slice j lb.length d),lb,[]))).toArray 38))
 case atStart=>exact ⟨0,rfl,by simp,H_ (by simp),rfl⟩
 case round =>
  obtain ⟨i,rfl,Q,G,rfl⟩:=hrel;have n:((w.alloc (Obj.cells #[.slice a cs.length cap,.slice f la.length c,.slice j lb.length d] 57)).alloc (Obj.cells ((calC (calO (.slice f la.length c),la,[]))++(calC (calO (.slice j lb.length d),lb,[]))).toArray 38)).heap[w.heap.size]?=some (.cells #[.slice a cs.length cap,.slice f la.length c,.slice j lb.length d] 57 (0,0)):=zaj (zad _ _ _ rfl) _;have l:Fr No w ((w.alloc (Obj.cells #[.slice a cs.length cap,.slice f la.length c,.slice j lb.length d] 57)).alloc (Obj.cells ((calC (calO (.slice f la.length c),la,[]))++(calC (calO (.slice j lb.length d),lb,[]))).toArray 38)):=((Fr.refl No w).alloc _).alloc _
  generalize ((w.alloc (Obj.cells #[.slice a cs.length cap,.slice f la.length c,.slice j lb.length d] 57)).alloc (Obj.cells ((calC (calO (.slice f la.length c),la,[]))++(calC (calO (.slice j lb.length d),lb,[]))).toArray 38))=W at *;have V:W.cell? ⟨w.heap.size,0,none⟩=some (.slice a cs.length cap):=cellAt n 0 rfl;have T:=zaa n;clear n
  cases gk with
  | zero =>
    have E:¬ (i:Int)<(cs.length:Int):=(by omega);have H:cs.take i=cs:=List.take_of_length_le (by omega);rw [H] at G;go_wp2;go_ret;exact ⟨by rw [C.out,G.out];rfl,l⟩
  | succ g =>
    obtain ⟨S,go,rfl⟩:=P.out (by omega);obtain ⟨p,s⟩:∃ p,cs[i]?=some p:=⟨_,List.getElem?_eq_getElem (by omega)⟩;have q:=M.out.fr0 l;have R:=q.cell0 zau i s rfl;have U:=q.cell zau i 4 s rfl;have E:(i:Int)<(cs.length:Int):=(by omega);have x:=zde (p:=fewCmp) s;have z:=zdq (p:=fewCmp) s;have F:=H_ x;have B:=H_ z;clear s q x z;by_cases h1:3000<p.key.size
    · have D:(3000:Int)<(p.key.size:Int):=by omega
      have m:fewCmp p=false:=(by unfold fewCmp;simp;omega);have A:=H_ m;clear m;go_wp2;go_ret;exact ⟨by rw [C.out,B.out A.out];rfl,l⟩
    have D:¬ (3000:Int)<(p.key.size:Int):=by omega
    by_cases h2:3000<p.value.size
    · have I:(3000:Int)<(p.value.size:Int):=by omega
      have m:fewCmp p=false:=(by unfold fewCmp;simp;omega);have A:=H_ m;clear m;go_wp2;go_ret;exact ⟨by rw [C.out,B.out A.out];rfl,l⟩
    have I:¬ (3000:Int)<(p.value.size:Int):=by omega
    have m:fewCmp p=true:=(by unfold fewCmp;simp;omega);have A:=H_ m;clear m;go_wp2;go_roundg g
    case rel=>exact ⟨i+1,by go_num,by omega,H_ (by rw [F.out,G.out,A.out];rfl),rfl⟩
    case measure=>omega
end Go.Proofs.YthljnnjpmdgkoaaGreat