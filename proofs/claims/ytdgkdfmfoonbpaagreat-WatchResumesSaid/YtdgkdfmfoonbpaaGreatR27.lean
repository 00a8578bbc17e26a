/- Own lemmas. -/
import Derived.Test.YtdgkdfmfoonbpaaGreatR26
import Derived.Test.YtdgkdfmfoonbpaaGreatR25
import Derived.Test.YtdgkdfmfoonbpaaGreatR24
import Derived.Test.YtdgkdfmfoonbpaaGreatR15
import Derived.Test.YtdgkdfmfoonbpaaGreatR09
import Derived.Test.YtdgkdfmfoonbpaaGreatR14
import Derived.Test.YtdgkdfmfoonbpaaGreatR00
import Derived.Deep.DeepCutAuto
import Derived.Deep.QuietTactic
import Derived.BigQuiet
import Derived.Deep.RegionHeld3
import Derived.Maps.RangeRun
import Derived.Shelf.SortG.Plain
import Derived.Shelf.SortG.SortNone
import Derived.Test.YtdgkdfmfoonbpaaGreatProg
namespace Go.Proofs.YtdgkdfmfoonbpaaGreat
open Go Go.Proofs Go.RowKit
set_option maxRecDepth 100000
def wtV (t:Wt):Value:=.agg #[.string t.key,.string t.end_,.int .i64 t.frm,.bool t.np,.bool t.nd,.bool t.prev]
theorem info72:(Tryz.prog.info? 72).map (fun i=>(i.zero,i.size,i.bytes))=some (some (.agg #[.int .i64 0,.string ByteArray.empty,.string ByteArray.empty,.int .i64 0,.int .i64 0,.int .i64 0,.int .i64 0,.string ByteArray.empty,.string ByteArray.empty,.int .i64 0,.int .i64 0,.int .i64 0,.int .i64 0]),13,136):=by kernel_rfl
set_option maxHeartbeats 8000000 in
theorem zgw (w:World) (t:Wt) (v:Value) (l:List Ev) (hv:SlF w 72 13 evC v l) (hl:l.length<=11000000) :
 Calls Tryz.prog 44 #[wtV t,v] w fun e w'=>∃ v',e=.returned v'/\SlF w' 72 13 evC v' (wantsW t l)/\Fr No w w'/\(∀ b,v'.ownBlock=some b->w.heap.size<=b):=by
 obtain ⟨a,cap,rfl,bl,bm,ha⟩:=hv.shape;have J:=zae w (Obj.cells #[.string t.key,.string t.end_,.int .i64 t.frm,.bool t.np,.bool t.nd,.bool t.prev] 29) _ rfl;have a7:Fr No w (w.alloc (Obj.cells #[.string t.key,.string t.end_,.int .i64 t.frm,.bool t.np,.bool t.nd,.bool t.prev] 29)):=(Fr.refl No w).alloc _;have HV:=H_ hv;have HA:=H_ ha;have ar:=H_ J;have M:=H_ a7;clear hv ha J a7;obtain ⟨i0,a8,ag,ah,ai⟩:=info_parts info72;unfold wtV;go_enter Tryz.func44,Tryz.ntmps44;go_upto_region 1 with fail;generalize w.alloc (Obj.cells #[.string t.key,.string t.end_,.int .i64 t.frm,.bool t.np,.bool t.nd,.bool t.prev] 29)=W0 at *;go_wp2_with fail
 go_loopg [5,7,10] l.length (fun g s5 _ s10 wr=>∃ (i:Nat) (O:List Ev),s10=.int .i64 i/\i+g=l.length/\Hid (O=wantsW t (l.take i))/\Hid (SlF wr 72 13 evC s5 O)/\Hid (Fr No W0 wr)/\Hid (∀ b,s5.ownBlock=some b->W0.heap.size<=b))
 case atStart=>exact ⟨0,[],rfl,by simp,H_ rfl,H_ (SlF.nil _ _ _ _),H_ (Fr.refl No W0),H_ (by simp [Value.ownBlock])⟩
 case round =>
  obtain ⟨i,O,rfl,hi,Z,HO,HF,HN⟩:=hrel
  cases gk with
  | zero =>
    have aJ:¬ (i:Int)<(l.length:Int):=(by omega);have aI:l.take i=l:=List.take_of_length_le (by omega);go_wp2_with fail;go_ret;have h:=Z.out;rw [aI] at h;refine ⟨_,rfl,by rw [<-h];exact HO.out,M.out.trans0 HF.out,fun b hb=>?_⟩;have:=HN.out b hb;have:=M.out.size;omega
  | succ q =>
    obtain ⟨g,o,rfl⟩:=HA.out (by omega);obtain ⟨x,f⟩:∃ x,l[i]?=some x:=⟨_,List.getElem?_eq_getElem (by omega)⟩;have aJ:(i:Int)<(l.length:Int):=(by omega);have C:=(HV.out.fr0 M.out).fr0 HF.out;have c0:=C.cell0 zaa i f rfl;have c1:=C.cell zaa i 1 f rfl;have c2:=C.cell zaa i 2 f rfl;have c3:=C.cell zaa i 3 f rfl;have c4:=C.cell zaa i 4 f rfl;have c5:=C.cell zaa i 5 f rfl;have c6:=C.cell zaa i 6 f rfl;have c7:=C.cell zaa i 7 f rfl;have c8:=C.cell zaa i 8 f rfl;have c9:=C.cell zaa i 9 f rfl;have aB:=C.cell zaa i 10 f rfl;have aC:=C.cell zaa i 11 f rfl;have aD:=C.cell zaa i 12 f rfl;have lg:=World.block_lt_of_cell? _ _ c0;have ab:=zmt t f;have A:=H_ ab;obtain ⟨k,⟨m,r,s,n,y,z⟩,⟨D,E,F,G,H,I⟩⟩:=x;dsimp only at *;clear C ab
    have U:=HF.out.alloc (Obj.cells #[Value.int .i64 k,.string m,.string r,.int .i64 s,.int .i64 n,.int .i64 y,.int .i64 z,.string D,.string E,.int .i64 F,.int .i64 G,.int .i64 H,.int .i64 I] 72);have B:=zae wr (Obj.cells #[Value.int .i64 k,.string m,.string r,.int .i64 s,.int .i64 n,.int .i64 y,.int .i64 z,.string D,.string E,.int .i64 F,.int .i64 G,.int .i64 H,.int .i64 I] 72) _ rfl;have ad:=HO.out.alloc (Obj.cells #[Value.int .i64 k,.string m,.string r,.int .i64 s,.int .i64 n,.int .i64 y,.int .i64 z,.string D,.string E,.int .i64 F,.int .i64 G,.int .i64 H,.int .i64 I] 72);go_upto_region 5 with fail
    generalize wr.alloc (Obj.cells #[Value.int .i64 k,.string m,.string r,.int .i64 s,.int .i64 n,.int .i64 y,.int .i64 z,.string D,.string E,.int .i64 F,.int .i64 G,.int .i64 H,.int .i64 I] 72)=d at *;obtain ⟨b,hb⟩:∃ b,wr.heap.size=b:=⟨_,rfl⟩;have J:=U.heap ar.out id;obtain ⟨t0,t1,t2,t3,t4,t5⟩:=cells6 J;have aM:=zac J;have bn:W0.heap.size<=b:=(by rw [<-hb];exact HF.out.size);rw [hb] at B ⊢
    have e0:d.cell? ⟨b,0,none⟩=some (.int .i64 k):=cellAt B 0 rfl;have e1:d.cell? ⟨b,1,none⟩=some (.string m):=cellAt B 1 rfl;have e4:d.cell? ⟨b,4,none⟩=some (.int .i64 n):=cellAt B 4 rfl;have lb:=zac B;have ay:Hid (∀ x,u5.ownBlock=some x->x≠b):=H_ fun x f e=>by have:=HO.out.lt x f;omega
    have c:=H_ B;have Q:=H_ ad;have N:=H_ U;clear c0 c1 c2 c3 c4 c5 c6 c7 c8 c9 aB aC aD lg J B ad U hb;have hw:wantB t ⟨k,⟨m,r,s,n,y,z⟩,⟨D,E,F,G,H,I⟩⟩ = !(decide (n<t.frm) || !inB m t.key t.end_||(decide (k=1)&&t.np)||(decide (k=2)&&t.nd)):=rfl;have a9:=fun W=>zpl W m t.key t.end_;have av:=H_ a9;clear a9;generalize wantB t ⟨k,⟨m,r,s,n,y,z⟩,⟨D,E,F,G,H,I⟩⟩=bw at *;obtain ⟨q0,Y⟩:∃ x,k=x:=⟨_,rfl⟩;obtain ⟨np,X⟩:∃ x,t.np=x:=⟨_,rfl⟩;obtain ⟨nd,V⟩:∃ x,t.nd=x:=⟨_,rfl⟩;rw [Y,X,V] at hw;rw [Y] at e0;rw [X] at t3;rw [V] at t4;have HW:=H_ hw;clear hw Y X V
    go_cut [48] (fun s48 wx=>s48=.bool (!bw)/\wx=d)
    case first =>
     go_wp2_with (go_at_call 75;(with_reducible refine (av.out _).mono ?_);rintro e w1 ⟨rfl,rfl⟩)
     all_goals
      go_meet
      case rel =>
       refine ⟨?_,rfl⟩;rw [HW.out,Bool.not_not]
       congr 1
       simp [*]
    case rest =>
    obtain ⟨rfl,af⟩:=hcut;rw [af];clear af e0 t3 t4;have e0:d.cell? ⟨b,0,none⟩=some (.int .i64 k):=cellAt c.out 0 rfl
    cases bw with
    | false =>
      rw [if_neg (by decide)] at A;go_wp2_with fail;go_roundg q
      case rel=>exact ⟨i+1,O,by go_num,by omega,H_ (by rw [A.out,Z.out]),Q,N,HN⟩
      case measure=>omega
    | true =>
      rw [if_pos rfl] at A;by_cases hpv:t.prev=true
      · have L:handE t ⟨k,⟨m,r,s,n,y,z⟩,⟨D,E,F,G,H,I⟩⟩=⟨k,⟨m,r,s,n,y,z⟩,⟨D,E,F,G,H,I⟩⟩:=by unfold handE;rw [if_pos hpv]
        rw [L] at A;have aj:d.cell? ⟨w.heap.size,5,none⟩=some (.bool true):=(by rw [t5,hpv]);have az:=H_ hpv;clear t5;have e2:d.cell? ⟨b,2,none⟩=some (.string r):=cellAt c.out 2 rfl;have e3:d.cell? ⟨b,3,none⟩=some (.int .i64 s):=cellAt c.out 3 rfl;have e5:d.cell? ⟨b,5,none⟩=some (.int .i64 y):=cellAt c.out 5 rfl;have e6:d.cell? ⟨b,6,none⟩=some (.int .i64 z):=cellAt c.out 6 rfl;have e7:d.cell? ⟨b,7,none⟩=some (.string D):=cellAt c.out 7 rfl;have e8:d.cell? ⟨b,8,none⟩=some (.string E):=cellAt c.out 8 rfl;have e9:d.cell? ⟨b,9,none⟩=some (.int .i64 F):=cellAt c.out 9 rfl;have a3:d.cell? ⟨b,10,none⟩=some (.int .i64 G):=cellAt c.out 10 rfl;have a4:d.cell? ⟨b,11,none⟩=some (.int .i64 H):=cellAt c.out 11 rfl
        have a5:d.cell? ⟨b,12,none⟩=some (.int .i64 I):=cellAt c.out 12 rfl;have K:Hid (O.length<=11000000):=H_ (by rw [Z.out];exact Nat.le_trans (zcd _ _) (Nat.le_trans (List.length_take_le _ _) (by omega)));have aa:=zav d (evC ⟨k,⟨m,r,s,n,y,z⟩,⟨D,E,F,G,H,I⟩⟩) 72 (0,0);have P:=H_ aa;clear aa L hpv;go_wp2_with (at_builtin;refine zgm rfl _ _ 41 rfl 72 i0 _ 13 136 Tryz.underlying41 a8 ag ah ai rfl (by decide) _ O rfl (Q.out.alloc _) W0 HN.out (N.out.alloc _) d.heap.size 1 ⟨k,⟨m,r,s,n,y,z⟩,⟨D,E,F,G,H,I⟩⟩ rfl P.out rfl ?c1 (by have:=K.out;unfold maxLen;omega) (by have:=K.out;omega) ?_)
        case c1=>intro u hu;simp [evC,kvC] at hu;rcases hu with h | h | h | h | h | h | h | h | h | h | h | h | h <;> (rw [h];rfl)
        rintro g1 o1 a2 w2 S aH R aK;go_wp2;go_roundg q
        case rel=>exact ⟨i+1,O++[⟨k,⟨m,r,s,n,y,z⟩,⟨D,E,F,G,H,I⟩⟩],by go_num,by omega,H_ (by rw [A.out,Z.out]),H_ (by simpa using S),H_ R,H_ (by intro x f;simp [Value.ownBlock] at f;omega)⟩
        case measure=>omega
      have L:handE t ⟨k,⟨m,r,s,n,y,z⟩,⟨D,E,F,G,H,I⟩⟩=⟨k,⟨m,r,s,n,y,z⟩,kv0⟩:=by unfold handE;rw [if_neg hpv]
      rw [L] at A;have aj:d.cell? ⟨w.heap.size,5,none⟩=some (.bool false):=(by rw [t5];simpa using hpv);have az:=H_ hpv;clear t5 hpv L;have fr:∀ j,d.frozen? ⟨b,j,none⟩=false:=fun j=>by unfold World.frozen?;rw [c.out];simp
      have f7:=fr 7;have e7:d.cell? ⟨b,7,none⟩=some (.string D):=cellAt c.out 7 rfl;have f8:=fr 8;have e8:d.cell? ⟨b,8,none⟩=some (.string E):=cellAt c.out 8 rfl;have f9:=fr 9;have e9:d.cell? ⟨b,9,none⟩=some (.int .i64 F):=cellAt c.out 9 rfl;have aE:=fr 10;have a3:d.cell? ⟨b,10,none⟩=some (.int .i64 G):=cellAt c.out 10 rfl;have aF:=fr 11;have a4:d.cell? ⟨b,11,none⟩=some (.int .i64 H):=cellAt c.out 11 rfl;have aG:=fr 12;have a5:d.cell? ⟨b,12,none⟩=some (.int .i64 I):=cellAt c.out 12 rfl;clear fr;go_upto_region 8 with fail;have x7:=zab c.out 7 (.string ⟨#[]⟩);have x8:=zab x7 8 (.string ⟨#[]⟩);have x9:=zab x8 9 (.int .i64 0);have ak:=zab x9 10 (.int .i64 0);have al:=zab ak 11 (.int .i64 0);have am:=zab al 12 (.int .i64 0)
      have T:Fr (fun x=>x=b) d ((((((d.setCell ⟨b,7,none⟩ (.string ⟨#[]⟩)).setCell ⟨b,8,none⟩ (.string ⟨#[]⟩)).setCell ⟨b,9,none⟩ (.int .i64 0)).setCell ⟨b,10,none⟩ (.int .i64 0)).setCell ⟨b,11,none⟩ (.int .i64 0)).setCell ⟨b,12,none⟩ (.int .i64 0)):=((((((Fr.refl (fun x=>x=b) d).setCell (p:=⟨b,7,none⟩) (.inl rfl) _).setCell (p:=⟨b,8,none⟩) (.inl rfl) _).setCell (p:=⟨b,9,none⟩) (.inl rfl) _).setCell (p:=⟨b,10,none⟩) (.inl rfl) _).setCell (p:=⟨b,11,none⟩) (.inl rfl) _).setCell (p:=⟨b,12,none⟩) (.inl rfl) _;generalize ((((((d.setCell ⟨b,7,none⟩ (.string ⟨#[]⟩)).setCell ⟨b,8,none⟩ (.string ⟨#[]⟩)).setCell ⟨b,9,none⟩ (.int .i64 0)).setCell ⟨b,10,none⟩ (.int .i64 0)).setCell ⟨b,11,none⟩ (.int .i64 0)).setCell ⟨b,12,none⟩ (.int .i64 0))=W2 at *;clear x7 x8 x9 ak al
      have a1:Hid (W2.heap[b]?=some (.cells #[Value.int .i64 k,.string m,.string r,.int .i64 s,.int .i64 n,.int .i64 y,.int .i64 z,.string ⟨#[]⟩,.string ⟨#[]⟩,.int .i64 0,.int .i64 0,.int .i64 0,.int .i64 0] 72 (0,0))):=H_ am;have au:=H_ (N.out.trans T fun x f e=>by have e':x=b:=e;omega);have ax:=H_ (Q.out.fr T fun x f e=>ay.out x f e);clear am e0 e1 e4 e7 e8 e9 a3 a4 a5 f7 f8 f9 aE aF aG t0 t1 t2 aj aM lb T;have lb:=zac a1.out;obtain ⟨g0,g1,g2,g3,g4,g5,g6,g7,g8,g9,bi,bj,bk⟩:=cells13 a1.out;have K:Hid (O.length<=11000000):=H_ (by rw [Z.out];exact Nat.le_trans (zcd _ _) (Nat.le_trans (List.length_take_le _ _) (by omega)));have P:=H_ (zav W2 (evC ⟨k,⟨m,r,s,n,y,z⟩,kv0⟩) 72 (0,0))
      go_wp2_with (at_builtin;refine zgm rfl _ _ 41 rfl 72 i0 _ 13 136 Tryz.underlying41 a8 ag ah ai rfl (by decide) _ O rfl (ax.out.alloc _) W0 HN.out (au.out.alloc _) W2.heap.size 1 ⟨k,⟨m,r,s,n,y,z⟩,kv0⟩ rfl P.out rfl ?c1 (by have:=K.out;unfold maxLen;omega) (by have:=K.out;omega) ?_)
      case c1=>intro u hu;simp [evC,kvC,kv0] at hu;rcases hu with h | h | h | h | h | h | h | h | h <;> (rw [h];rfl)
      rintro g1 o1 a2 w2 S aH R aK;go_wp2;go_roundg q
      case rel=>exact ⟨i+1,O++[⟨k,⟨m,r,s,n,y,z⟩,kv0⟩],by go_num,by omega,H_ (by rw [A.out,Z.out]),H_ (by simpa using S),H_ R,H_ (by intro x f;simp [Value.ownBlock] at f;omega)⟩
      case measure=>omega
open Go Go.Proofs
theorem zba {P:Program} {C:World->Prop} {id:Nat} {Q:Exit->Act->World->Prop} {a:Act} {w:World} {l:List Oper} (hm:P.follows .mixedOrders=true) (hB:Region.lexB .any l.toArray=true)
 (hC:C w.drew) (h:wpQuiet P l.toArray C (fun a'=>∀ w',C w'->Q .normal a' w') l a):(Code.region id l.toArray true).wp P Q a w :=
 wp_region_quiet hm hB hC (by simpa using h)
set_option maxHeartbeats 8000000 in
theorem zrc {w:World} {h st:Nat} {H:Hb} {F:Nat->Prop} (hH:HubAt w h st H F) (t:Wt) (hk:t.key.size<=1099511627776) (hf0:0<=H.fed) (hf1:H.fed<=1000000) (hl1:H.last<=1000000) (_hfr:(Lit.int .i64 t.frm).wf=true) :
 Calls Tryz.prog 12 #[.pointer (some ⟨h,0,none⟩),wtV t] w fun e w'=>e=.returned (.tuple #[.int .i64 (if openE t=0 then H.last+1 else 0),.int .i64 (openE t)])/\∃ F',HubAt w' h st (if openE t=0 then openH H t else H) F'/\Fr F w w'/\∀ b,F' b->F b\/w.heap.size<=b:=by
 have ag:=fun W=>zdp W ⟨t.key,t.end_,0,0,false,false,false⟩ hk;have aB:=hH;obtain ⟨m,hp,FL,a,hF⟩:=hH;have D:=a.obj.cell 1 rfl;have R:=a.obj.cell 2 rfl;have c3:=a.obj.cell 3 rfl;have lh:=a.obj.lt;have b3:=a.ok.last;unfold openE;generalize b0:askE ⟨t.key,t.end_,0,0,false,false,false⟩=ae at *;unfold rgV at ag;dsimp only at ag;have af:=H_ ag;have HA:=H_ a;have Q:=H_ hF;clear ag hF;have aC:=zae w (Obj.cells #[.string t.key,.string t.end_,.int .i64 t.frm,.bool t.np,.bool t.nd,.bool t.prev] 29) _ rfl;have hf:=(Fr.refl No w).alloc (Obj.cells #[.string t.key,.string t.end_,.int .i64 t.frm,.bool t.np,.bool t.nd,.bool t.prev] 29);have am:=H_ aC;have HF:=H_ hf;clear aC hf;by_cases h1:ae≠0
 · rw [if_pos h1,if_neg h1,if_neg h1]
   have aj:(ae != 0)=true:=(by simpa using h1);have aW:(ae==0)=false:=(by simpa using h1);clear a D R c3;unfold wtV;go_enter Tryz.func12,Tryz.ntmps12;go_wp2_with (go_at_call 41;(with_reducible refine (af.out _).mono ?_);rintro e w1 ⟨rfl,hf1⟩)
   go_ret2
   exact ⟨rfl,F,aB.fr0 (HF.out.trans0 hf1),(HF.out.trans0 hf1).mono fun _ _ h=>h.elim,fun b hb=>.inl hb⟩
 rw [if_neg h1]
 have aj:ae=0:=(by omega);clear h1;subst aj;by_cases h2:t.frm<0
 · rw [if_pos h2,if_neg (by decide),if_neg (by decide)]
   clear a D R c3;unfold wtV;go_enter Tryz.func12,Tryz.ntmps12;go_wp2_with (go_at_call 41;(with_reducible refine (af.out _).mono ?_);rintro e w1 ⟨rfl,hf1⟩;have n:=hf1.heap am.out id;have N:w1.cell? ⟨w.heap.size,2,none⟩=some (.int .i64 t.frm):=cellAt n 2 rfl;have ln:=zac n)
   go_ret2
   exact ⟨rfl,F,aB.fr0 (HF.out.trans0 hf1),(HF.out.trans0 hf1).mono fun _ _ h=>h.elim,fun b hb=>.inl hb⟩
 rw [if_neg h2,if_pos rfl,if_pos rfl]
 clear a D R c3;unfold wtV;go_enter Tryz.func12,Tryz.ntmps12;go_upto_region 8 with (go_at_call 41;(with_reducible refine (af.out _).mono ?_);rintro e w1 ⟨rfl,ar⟩;have n:=ar.heap am.out id;have N:w1.cell? ⟨w.heap.size,2,none⟩=some (.int .i64 t.frm):=cellAt n 2 rfl;have ln:=zac n);have ai:=HF.out.trans0 ar;have a1:=HA.out.fr ai fun _ _ x=>x;have D:=a1.obj.cell 1 rfl;have aF:=a1.obj.lt;have n0:w1.cell? ⟨w.heap.size,0,none⟩=some (.string t.key):=cellAt n 0 rfl;have n1:w1.cell? ⟨w.heap.size,1,none⟩=some (.string t.end_):=cellAt n 1 rfl;have n3:w1.cell? ⟨w.heap.size,3,none⟩=some (.bool t.np):=cellAt n 3 rfl;have n4:w1.cell? ⟨w.heap.size,4,none⟩=some (.bool t.nd):=cellAt n 4 rfl;have n5:w1.cell? ⟨w.heap.size,5,none⟩=some (.bool t.prev):=cellAt n 5 rfl
 have b5:w.heap.size<=w1.heap.size:=ai.size;have ad:=H_ a1;have an:=H_ ai;have aQ:=H_ n;obtain ⟨b,aq⟩:∃ b,b=w1.heap.size:=⟨_,rfl⟩;have q:=H_ aq;clear a1 ai ar n af am HF;have b4:IntKind.i64.wrap (H.fed+1)=H.fed+1:=(by rw [IntKind.wrap_i64];omega)
 go_cut [7] (fun s7 wx=>s7=.pointer (some ⟨b,0,none⟩)/\Hid (wx.heap[b]?=some (.cells #[.string t.key,.string t.end_,.int .i64 t.frm,.bool t.np,.bool t.nd,.bool t.prev,.slice none 0 0,.int .i64 (H.fed+1)] 100 (0,0)))/\Hid (Fr No w1 wx))
 case first =>
  clear aq;have q0:w1.cell? ⟨h,1,none⟩=some (.int .i64 H.fed)/\w1.cell? ⟨w.heap.size,0,none⟩=some (.string t.key)/\w1.cell? ⟨w.heap.size,1,none⟩=some (.string t.end_)/\w1.cell? ⟨w.heap.size,2,none⟩=some (.int .i64 t.frm)/\w1.cell? ⟨w.heap.size,3,none⟩=some (.bool t.np)/\w1.cell? ⟨w.heap.size,4,none⟩=some (.bool t.nd)/\w1.cell? ⟨w.heap.size,5,none⟩=some (.bool t.prev):=⟨D,n0,n1,N,n3,n4,n5⟩
  have q1:w1.drew.cell? ⟨h,1,none⟩=some (.int .i64 H.fed)/\w1.drew.cell? ⟨w.heap.size,0,none⟩=some (.string t.key)/\w1.drew.cell? ⟨w.heap.size,1,none⟩=some (.string t.end_)/\w1.drew.cell? ⟨w.heap.size,2,none⟩=some (.int .i64 t.frm)/\w1.drew.cell? ⟨w.heap.size,3,none⟩=some (.bool t.np)/\w1.drew.cell? ⟨w.heap.size,4,none⟩=some (.bool t.nd)/\w1.drew.cell? ⟨w.heap.size,5,none⟩=some (.bool t.prev):=⟨D,n0,n1,N,n3,n4,n5⟩
  have q2:∀ o,(w1.alloc o).drew.cell? ⟨h,1,none⟩=some (.int .i64 H.fed)/\(w1.alloc o).drew.cell? ⟨w.heap.size,0,none⟩=some (.string t.key)/\(w1.alloc o).drew.cell? ⟨w.heap.size,1,none⟩=some (.string t.end_)/\(w1.alloc o).drew.cell? ⟨w.heap.size,2,none⟩=some (.int .i64 t.frm)/\(w1.alloc o).drew.cell? ⟨w.heap.size,3,none⟩=some (.bool t.np)/\(w1.alloc o).drew.cell? ⟨w.heap.size,4,none⟩=some (.bool t.nd)/\(w1.alloc o).drew.cell? ⟨w.heap.size,5,none⟩=some (.bool t.prev):=fun o=>⟨(World.cell?_alloc_lt w1 o _ aF).trans D,(World.cell?_alloc_lt w1 o _ ln).trans n0,(World.cell?_alloc_lt w1 o _ ln).trans n1,(World.cell?_alloc_lt w1 o _ ln).trans N,(World.cell?_alloc_lt w1 o _ ln).trans n3,(World.cell?_alloc_lt w1 o _ ln).trans n4,(World.cell?_alloc_lt w1 o _ ln).trans n5⟩;clear D n0 n1 N n3 n4 n5
  go_region_held3 (fun W=>W.cell? ⟨h,1,none⟩=some (.int .i64 H.fed)/\W.cell? ⟨w.heap.size,0,none⟩=some (.string t.key)/\W.cell? ⟨w.heap.size,1,none⟩=some (.string t.end_)/\W.cell? ⟨w.heap.size,2,none⟩=some (.int .i64 t.frm)/\W.cell? ⟨w.heap.size,3,none⟩=some (.bool t.np)/\W.cell? ⟨w.heap.size,4,none⟩=some (.bool t.nd)/\W.cell? ⟨w.heap.size,5,none⟩=some (.bool t.prev))
   (first | with_reducible exact q0 | with_reducible exact q1 | with_reducible exact q2 _ | fail)
   (first | fail)
  all_goals
   go_wp2;go_meet
   case rel=>exact ⟨by rw [q.out],H_ (by rw [q.out];exact zae w1 _ _ rfl),H_ (((Fr.refl No w1).alloc _).drew)⟩
 case rest =>
 obtain ⟨rfl,P,Y⟩:=hcut;generalize aT:wc=f at *;clear aT D n0 n1 N n3 n4 n5 ln aF;have S:=ad.out.fr Y.out fun _ _ x=>x;have D:=S.obj.cell 1 rfl;have R:=S.obj.cell 2 rfl;have c3:=S.obj.cell 3 rfl;have a6:=Y.out.heap aQ.out id;have N:f.cell? ⟨w.heap.size,2,none⟩=some (.int .i64 t.frm):=cellAt a6 2 rfl;have ln:=zac a6;have b8:=S.obj.lt;have b6:=zac P.out;have b7:f.cell? ⟨b,7,none⟩=some (.int .i64 (H.fed+1)):=cellAt P.out 7 rfl;have al:=H_ S;clear S a6;go_upto_region 9 with fail;have fz:f.frozen? ⟨b,7,none⟩=false:=(by unfold World.frozen?;rw [P.out];rfl);clear aq;rcases (show (1<=t.frm/\t.frm<=H.fed)\/(1<=t.frm/\¬ t.frm<=H.fed)\/¬ 1<=t.frm by omega) with ⟨U,a7⟩ | ⟨U,a7⟩ | U
 · have d1:decide (1<=t.frm)=true:=decide_eq_true U
   have d2:decide (t.frm<=H.fed)=true:=decide_eq_true a7;have q0:f.cell? ⟨h,1,none⟩=some (.int .i64 H.fed)/\f.cell? ⟨w.heap.size,2,none⟩=some (.int .i64 t.frm):=⟨D,N⟩;have q1:f.drew.cell? ⟨h,1,none⟩=some (.int .i64 H.fed)/\f.drew.cell? ⟨w.heap.size,2,none⟩=some (.int .i64 t.frm):=⟨D,N⟩;clear D R c3 N
   go_region_held3 (fun W=>W.cell? ⟨h,1,none⟩=some (.int .i64 H.fed)/\W.cell? ⟨w.heap.size,2,none⟩=some (.int .i64 t.frm))
    (first | with_reducible exact q0 | with_reducible exact q1 | fail)
    (first | fail)
   go_upto_region 11 with fail;have V:Hid (((f.setCell ⟨b,7,none⟩ (.int .i64 t.frm)).drew).heap[b]?=some (.cells #[.string t.key,.string t.end_,.int .i64 t.frm,.bool t.np,.bool t.nd,.bool t.prev,.slice none 0 0,.int .i64 t.frm] 100 (0,0))):=H_ (zab (w:=f) P.out 7 _);have A:Hid (Fr (fun x=>x=b) f ((f.setCell ⟨b,7,none⟩ (.int .i64 t.frm)).drew)):=H_ ((Fr.refl (fun x=>x=b) f).setCell (p:=⟨b,7,none⟩) (.inl rfl) _).drew;have a3:Hid ((openS H t).place=t.frm):=H_ (by unfold openS;exact if_pos ⟨U,a7⟩);clear fz;generalize (f.setCell ⟨b,7,none⟩ (.int .i64 t.frm)).drew=B at *
   have v:∀ x,hubF h m FL x->x≠b:=fun x hx e=>by
    have h1:=ad.out.lt x hx;have h2:=q.out;omega
   have d:=al.out.fr A.out fun x hx e=>v x hx e;have R:=d.obj.cell 2 rfl;have f2:=d.obj.free 2;have aG:=d.obj.lt;have g:=H_ d;have r:=H_ v;clear d v;have aE:IntKind.i64.wrap (H.last+1)=H.last+1:=(by rw [IntKind.wrap_i64];omega);go_upto_region 12 with fail;have l:Fr (fun x=>x=h) B (B.setCell ⟨h,2,none⟩ (.int .i64 (H.last+1))):=(Fr.refl (fun x=>x=h) B).setAt 2 _;have c:HubR (B.setCell ⟨h,2,none⟩ (.int .i64 (H.last+1))) h st m hp FL ⟨H.fed,H.last+1,H.L⟩:=g.out.setObj l (g.out.obj.set 2 (.int .i64 (H.last+1))) ⟨g.out.ok.up,fun p hp=>by have:=g.out.ok.ids p hp;dsimp only;omega,by dsimp only;omega⟩;have E:=l.heap V.out (fun e=>r.out h (.inl rfl) e.symm);generalize B.setCell ⟨h,2,none⟩ (.int .i64 (H.last+1))=O at *;have d2:=c.obj.cell 2 rfl
   have d3:=c.obj.cell 3 rfl;have aH:=c.obj.lt;have a0:=H_ (c.map.fr (Fr.refl No O).drew fun x=>x);have j:=H_ c;have X:=H_ E;have Z:=H_ l;have M:(Lit.int .i64 (H.last+1)).wf=true:=wf64 (by omega) (by omega);have a4:=H_ M;clear c E l R f2 M;refine wp_region_still_tail 9 (by kernel_rfl) (by kernel_rfl) ?_;simp only [List.take_succ_cons,List.take_zero,List.drop_succ_cons,List.drop_zero];change wpStill _ _ O.drew _ _ _
   repeat (refine wpStill_step (fun K hK=>?_);go_simp;(try go_bits);refine hK _ ?_;clear hK K)
   refine wpStill_nil ?_;change wpList _ _ _ _ _ O.drew;refine zcu rfl _ _ _ 94 rfl 3 98 Tryz.underlying94 Tryz.underlying3 m _ rfl a0.out (H.last+1) rfl a4.out (.pointer (some ⟨b,0,none⟩)) rfl ?_;intro w5 J I aD;have y:=(Fr.refl (fun x=>x=m) O).drew.trans I fun _ _ e=>e;have z:Has w5 h [.pointer (some ⟨st,0,none⟩),.int .i64 H.fed,.int .i64 (H.last+1),.map (some m)]:=j.out.obj.fr y fun e=>j.out.map.apart j.out.obj e.symm;have e2:=z.cell 2 rfl;have le:=z.lt;have a2:=H_ J;have u:=H_ y;clear J I y z d2 d3;go_wp2_with fail
   go_ret2
   have a8:getH H.L (H.last+1)=none:=HA.out.ok.none (.inl (by omega));have k:∀ x,x=h\/x=m->F x:=fun x e=>(Q.out x).2 (e.imp (fun e=>e) fun e=>.inl e)
   have G:Fr F w w5:=by
    refine ((((an.out.mono fun _ _ h=>h.elim).trans (Y.out.mono (T:=F) fun _ _ h=>h.elim) fun _ _ e=>e).trans A.out fun x hx e=>?_).trans Z.out fun x _ e=>k x (.inl e)).trans u.out fun x _ e=>k x (.inr e);have e':x=b:=e;have:=q.out;omega
   have a9:Has w5 b (smC (openS H t).w (.slice none 0 0) (openS H t).place):=by
    rw [a3.out];exact ⟨_,u.out.heap X.out fun e=>r.out m (.inr (.inl rfl)) e.symm⟩
   have a5:=j.out.addSm (id:=H.last+1) (p:=b) (s:=openS H t) a8 rfl u.out (fun x hx=>r.out x hx) a9 a2.out (HA.out.ok.open t);refine ⟨rfl,_,⟨m,_,_,a5,fun _=>Iff.rfl⟩,G,fun x hx=>?_⟩;rcases hx with e | e | ⟨i,e⟩
   · exact .inl (k x (.inl e))
   · exact .inl (k x (.inr e))
   by_cases hi:i=H.last+1
   · rw [if_pos hi] at e
     have:=q.out
     right
     omega
   rw [if_neg hi] at e
   exact .inl ((Q.out x).2 (.inr (.inr ⟨i,e⟩)))
 · have d1:decide (1<=t.frm)=true:=decide_eq_true U
   have d2:decide (t.frm<=H.fed)=false:=decide_eq_false a7;have q0:f.cell? ⟨h,1,none⟩=some (.int .i64 H.fed)/\f.cell? ⟨w.heap.size,2,none⟩=some (.int .i64 t.frm):=⟨D,N⟩;have q1:f.drew.cell? ⟨h,1,none⟩=some (.int .i64 H.fed)/\f.drew.cell? ⟨w.heap.size,2,none⟩=some (.int .i64 t.frm):=⟨D,N⟩;clear D R c3 N
   go_region_held3 (fun W=>W.cell? ⟨h,1,none⟩=some (.int .i64 H.fed)/\W.cell? ⟨w.heap.size,2,none⟩=some (.int .i64 t.frm))
    (first | with_reducible exact q0 | with_reducible exact q1 | fail)
    (first | fail)
   go_upto_region 11 with fail;have V:Hid ((f.drew).heap[b]?=some (.cells #[.string t.key,.string t.end_,.int .i64 t.frm,.bool t.np,.bool t.nd,.bool t.prev,.slice none 0 0,.int .i64 (H.fed+1)] 100 (0,0))):=H_ P.out;have A:Hid (Fr (fun x=>x=b) f (f.drew)):=H_ (Fr.refl (fun x=>x=b) f).drew;have a3:Hid ((openS H t).place=(H.fed+1)):=H_ (by unfold openS;exact if_neg fun h=>a7 h.2);clear fz;generalize f.drew=B at *
   have v:∀ x,hubF h m FL x->x≠b:=fun x hx e=>by
    have h1:=ad.out.lt x hx;have h2:=q.out;omega
   have d:=al.out.fr A.out fun x hx e=>v x hx e;have R:=d.obj.cell 2 rfl;have f2:=d.obj.free 2;have aG:=d.obj.lt;have g:=H_ d;have r:=H_ v;clear d v;have aE:IntKind.i64.wrap (H.last+1)=H.last+1:=(by rw [IntKind.wrap_i64];omega);go_upto_region 12 with fail;have l:Fr (fun x=>x=h) B (B.setCell ⟨h,2,none⟩ (.int .i64 (H.last+1))):=(Fr.refl (fun x=>x=h) B).setAt 2 _;have c:HubR (B.setCell ⟨h,2,none⟩ (.int .i64 (H.last+1))) h st m hp FL ⟨H.fed,H.last+1,H.L⟩:=g.out.setObj l (g.out.obj.set 2 (.int .i64 (H.last+1))) ⟨g.out.ok.up,fun p hp=>by have:=g.out.ok.ids p hp;dsimp only;omega,by dsimp only;omega⟩;have E:=l.heap V.out (fun e=>r.out h (.inl rfl) e.symm);generalize B.setCell ⟨h,2,none⟩ (.int .i64 (H.last+1))=O at *;have d2:=c.obj.cell 2 rfl
   have d3:=c.obj.cell 3 rfl;have aH:=c.obj.lt;have a0:=H_ (c.map.fr (Fr.refl No O).drew fun x=>x);have j:=H_ c;have X:=H_ E;have Z:=H_ l;have M:(Lit.int .i64 (H.last+1)).wf=true:=wf64 (by omega) (by omega);have a4:=H_ M;clear c E l R f2 M;refine wp_region_still_tail 9 (by kernel_rfl) (by kernel_rfl) ?_;simp only [List.take_succ_cons,List.take_zero,List.drop_succ_cons,List.drop_zero];change wpStill _ _ O.drew _ _ _
   repeat (refine wpStill_step (fun K hK=>?_);go_simp;(try go_bits);refine hK _ ?_;clear hK K)
   refine wpStill_nil ?_;change wpList _ _ _ _ _ O.drew;refine zcu rfl _ _ _ 94 rfl 3 98 Tryz.underlying94 Tryz.underlying3 m _ rfl a0.out (H.last+1) rfl a4.out (.pointer (some ⟨b,0,none⟩)) rfl ?_;intro w5 J I aD;have y:=(Fr.refl (fun x=>x=m) O).drew.trans I fun _ _ e=>e;have z:Has w5 h [.pointer (some ⟨st,0,none⟩),.int .i64 H.fed,.int .i64 (H.last+1),.map (some m)]:=j.out.obj.fr y fun e=>j.out.map.apart j.out.obj e.symm;have e2:=z.cell 2 rfl;have le:=z.lt;have a2:=H_ J;have u:=H_ y;clear J I y z d2 d3;go_wp2_with fail
   go_ret2
   have a8:getH H.L (H.last+1)=none:=HA.out.ok.none (.inl (by omega));have k:∀ x,x=h\/x=m->F x:=fun x e=>(Q.out x).2 (e.imp (fun e=>e) fun e=>.inl e)
   have G:Fr F w w5:=by
    refine ((((an.out.mono fun _ _ h=>h.elim).trans (Y.out.mono (T:=F) fun _ _ h=>h.elim) fun _ _ e=>e).trans A.out fun x hx e=>?_).trans Z.out fun x _ e=>k x (.inl e)).trans u.out fun x _ e=>k x (.inr e);have e':x=b:=e;have:=q.out;omega
   have a9:Has w5 b (smC (openS H t).w (.slice none 0 0) (openS H t).place):=by
    rw [a3.out];exact ⟨_,u.out.heap X.out fun e=>r.out m (.inr (.inl rfl)) e.symm⟩
   have a5:=j.out.addSm (id:=H.last+1) (p:=b) (s:=openS H t) a8 rfl u.out (fun x hx=>r.out x hx) a9 a2.out (HA.out.ok.open t);refine ⟨rfl,_,⟨m,_,_,a5,fun _=>Iff.rfl⟩,G,fun x hx=>?_⟩;rcases hx with e | e | ⟨i,e⟩
   · exact .inl (k x (.inl e))
   · exact .inl (k x (.inr e))
   by_cases hi:i=H.last+1
   · rw [if_pos hi] at e
     have:=q.out
     right
     omega
   rw [if_neg hi] at e
   exact .inl ((Q.out x).2 (.inr (.inr ⟨i,e⟩)))
 have au:t.frm=0:=by omega
 rw [au] at N;have aY:=H_ au;have q1:f.drew.cell? ⟨w.heap.size,2,none⟩=some (.int .i64 0):=N;have l1:w.heap.size<f.drew.heap.size:=ln;clear D R c3 N au;refine zba (C:=fun W=>W=f.drew) (by kernel_rfl) (by kernel_rfl) rfl ?_
 repeat (refine (wpQuiet_step (fun K hK=>?_):_)
         go_simp
         first
          | (refine hK _ ?_;clear hK K)
          | (apply Exists.intro
             refine ⟨fun W hW=>?_,hK _ ?_⟩
             (first
               | exact rfl
               | (subst hW;go_simp;exact rfl))
             clear hK K))
 refine (wpQuiet_nil ?_:_);intro w9 aS;subst aS;go_upto_region 11 with fail;have V:Hid ((f.drew).heap[b]?=some (.cells #[.string t.key,.string t.end_,.int .i64 t.frm,.bool t.np,.bool t.nd,.bool t.prev,.slice none 0 0,.int .i64 (H.fed+1)] 100 (0,0))):=H_ P.out;have A:Hid (Fr (fun x=>x=b) f (f.drew)):=H_ (Fr.refl (fun x=>x=b) f).drew;have a3:Hid ((openS H t).place=(H.fed+1)):=H_ (by unfold openS;exact if_neg fun h=>U h.1);clear fz;generalize f.drew=B at *
 have v:∀ x,hubF h m FL x->x≠b:=fun x hx e=>by
  have h1:=ad.out.lt x hx;have h2:=q.out;omega
 have d:=al.out.fr A.out fun x hx e=>v x hx e;have R:=d.obj.cell 2 rfl;have f2:=d.obj.free 2;have aG:=d.obj.lt;have g:=H_ d;have r:=H_ v;clear d v;have aE:IntKind.i64.wrap (H.last+1)=H.last+1:=(by rw [IntKind.wrap_i64];omega);go_upto_region 12 with fail;have l:Fr (fun x=>x=h) B (B.setCell ⟨h,2,none⟩ (.int .i64 (H.last+1))):=(Fr.refl (fun x=>x=h) B).setAt 2 _;have c:HubR (B.setCell ⟨h,2,none⟩ (.int .i64 (H.last+1))) h st m hp FL ⟨H.fed,H.last+1,H.L⟩:=g.out.setObj l (g.out.obj.set 2 (.int .i64 (H.last+1))) ⟨g.out.ok.up,fun p hp=>by have:=g.out.ok.ids p hp;dsimp only;omega,by dsimp only;omega⟩;have E:=l.heap V.out (fun e=>r.out h (.inl rfl) e.symm);generalize B.setCell ⟨h,2,none⟩ (.int .i64 (H.last+1))=O at *;have d2:=c.obj.cell 2 rfl
 have d3:=c.obj.cell 3 rfl;have aH:=c.obj.lt;have a0:=H_ (c.map.fr (Fr.refl No O).drew fun x=>x);have j:=H_ c;have X:=H_ E;have Z:=H_ l;have M:(Lit.int .i64 (H.last+1)).wf=true:=wf64 (by omega) (by omega);have a4:=H_ M;clear c E l R f2 M;refine wp_region_still_tail 9 (by kernel_rfl) (by kernel_rfl) ?_;simp only [List.take_succ_cons,List.take_zero,List.drop_succ_cons,List.drop_zero];change wpStill _ _ O.drew _ _ _
 repeat (refine wpStill_step (fun K hK=>?_);go_simp;(try go_bits);refine hK _ ?_;clear hK K)
 refine wpStill_nil ?_;change wpList _ _ _ _ _ O.drew;refine zcu rfl _ _ _ 94 rfl 3 98 Tryz.underlying94 Tryz.underlying3 m _ rfl a0.out (H.last+1) rfl a4.out (.pointer (some ⟨b,0,none⟩)) rfl ?_;intro w5 J I aD;have y:=(Fr.refl (fun x=>x=m) O).drew.trans I fun _ _ e=>e;have z:Has w5 h [.pointer (some ⟨st,0,none⟩),.int .i64 H.fed,.int .i64 (H.last+1),.map (some m)]:=j.out.obj.fr y fun e=>j.out.map.apart j.out.obj e.symm;have e2:=z.cell 2 rfl;have le:=z.lt;have a2:=H_ J;have u:=H_ y;clear J I y z d2 d3;go_wp2_with fail
 go_ret2
 have a8:getH H.L (H.last+1)=none:=HA.out.ok.none (.inl (by omega));have k:∀ x,x=h\/x=m->F x:=fun x e=>(Q.out x).2 (e.imp (fun e=>e) fun e=>.inl e)
 have G:Fr F w w5:=by
  refine ((((an.out.mono fun _ _ h=>h.elim).trans (Y.out.mono (T:=F) fun _ _ h=>h.elim) fun _ _ e=>e).trans A.out fun x hx e=>?_).trans Z.out fun x _ e=>k x (.inl e)).trans u.out fun x _ e=>k x (.inr e);have e':x=b:=e;have:=q.out;omega
 have a9:Has w5 b (smC (openS H t).w (.slice none 0 0) (openS H t).place):=by
  rw [a3.out];exact ⟨_,u.out.heap X.out fun e=>r.out m (.inr (.inl rfl)) e.symm⟩
 have a5:=j.out.addSm (id:=H.last+1) (p:=b) (s:=openS H t) a8 rfl u.out (fun x hx=>r.out x hx) a9 a2.out (HA.out.ok.open t);refine ⟨rfl,_,⟨m,_,_,a5,fun _=>Iff.rfl⟩,G,fun x hx=>?_⟩;rcases hx with e | e | ⟨i,e⟩
 · exact .inl (k x (.inl e))
 · exact .inl (k x (.inr e))
 by_cases hi:i=H.last+1
 · rw [if_pos hi] at e
   have:=q.out
   right
   omega
 rw [if_neg hi] at e
 exact .inl ((Q.out x).2 (.inr (.inr ⟨i,e⟩)))
open Go Go.RowKit Go.WideElems Go.ChangeMaps
theorem zwj {wr w2:World} {b:Nat} (hw2:w2=wr\/w2=wr.drew) (o:Obj):Fr (fun k=>k=b) wr (ChangeMaps.setBlock w2 b o)/\(ChangeMaps.setBlock w2 b o).heap.size=wr.heap.size:=by
 have a:(ChangeMaps.setBlock w2 b o).heap.size=wr.heap.size:=by rcases hw2 with rfl | rfl <;> simp [ChangeMaps.setBlock]
 rcases hw2 with rfl | rfl
 · exact ⟨⟨rfl,rfl,rfl,Nat.le_of_eq a.symm,fun k _ hk=>zdh _ _ _ _ hk⟩,a⟩
 exact ⟨⟨rfl,rfl,rfl,Nat.le_of_eq a.symm,fun k _ hk=>zdh _ _ _ _ hk⟩,a⟩
theorem ztk {es:Array MapEntry} (hnd:(es.toList.map (·.born)).Nodup) {x e:MapEntry} (hx:x∈es.toList) (he:e∈es.toList) (hb:x.born=e.born):x=e:=by
 obtain ⟨i,a⟩:=List.mem_iff_getElem?.1 hx;obtain ⟨j,c⟩:=List.mem_iff_getElem?.1 he;have b:=(List.getElem?_eq_some_iff.1 a).1;have d:(es.toList.map (·.born))[i]?=(es.toList.map (·.born))[j]?:=by rw [List.getElem?_map,List.getElem?_map,a,c];simp [hb]
 have:=(List.getElem?_inj (by simpa using b) hnd).1 d;subst this;rw [a] at c;exact Option.some.inj c
theorem zva {es:Array MapEntry} (hnd:(es.toList.map (·.key)).Nodup) {x e:MapEntry} (hx:x∈es.toList) (he:e∈es.toList) (hb:x.key=e.key):x=e:=by
 obtain ⟨i,a⟩:=List.mem_iff_getElem?.1 hx;obtain ⟨j,c⟩:=List.mem_iff_getElem?.1 he;have b:=(List.getElem?_eq_some_iff.1 a).1;have d:(es.toList.map (·.key))[i]?=(es.toList.map (·.key))[j]?:=by rw [List.getElem?_map,List.getElem?_map,a,c];simp [hb]
 have:=(List.getElem?_inj (by simpa using b) hnd).1 d;subst this;rw [a] at c;exact Option.some.inj c
theorem zsb {es:Array MapEntry} {seen:Array Nat} {e x:MapEntry} (hnd:(es.toList.map (·.born)).Nodup) (he:e∈es.toList) (hx:x∈es.toList) (hc:(seen.push e.born).contains x.born=true):seen.contains x.born=true\/x=e:=by
 rw [contains_push,Bool.or_eq_true] at hc;rcases hc with hc | hc
 · exact .inl hc
 exact .inr (ztk hnd hx he (by simpa using hc))
theorem zug {seen:Array Nat} {b c:Nat} (h:seen.contains c=true):(seen.push b).contains c=true:=by rw [contains_push,h];rfl
theorem zuh {seen:Array Nat} {b:Nat}:(seen.push b).contains b=true:=by rw [contains_push];simp
open Go Go.Proofs Go.Shelf
def zni:Go.Shelf.Ren:=⟨fun | 53=>74 | 64=>100 | 63=>99 | 78=>130 | 79=>131 | 70=>121 | 71=>122 | 72=>123 | 73=>124 | 74=>125 | 75=>126 | 59=>127 | 76=>128 | 77=>129 | 88=>148 | 89=>149 | 90=>150 | 91=>151 | 92=>152 | 68=>153 | 96=>162 | n=>n,fun | 22=>48 | 23=>3 | 3=>3 | 51=>182 | 0=>0 | 67=>216 | 69=>218 | 4=>4 | 61=>209 | 60=>208 | 44=>155 | 5=>5 | 9=>9 | 75=>232 | 79=>236 | 83=>242 | 84=>243 | n=>n,fun | n=>n⟩
theorem zsv:SlLaysN.n53 Tryz.prog zni:={
 mixed:=by kernel_rfl,
 f53:=⟨Tryz.f74.name,by decide,Tryz.func74.trans (congrArg some (by kernel_rfl))⟩,
 f59:=⟨Tryz.f127.name,by decide,Tryz.func127.trans (congrArg some (by kernel_rfl))⟩,
 f63:=⟨Tryz.f99.name,by decide,Tryz.func99.trans (congrArg some (by kernel_rfl))⟩,
 f64:=Tryz.func100.trans (congrArg some (by kernel_rfl)),
 f68:=⟨Tryz.f153.name,by decide,Tryz.func153.trans (congrArg some (by kernel_rfl))⟩,
 f70:=⟨Tryz.f121.name,by decide,Tryz.func121.trans (congrArg some (by kernel_rfl))⟩,
 f71:=⟨Tryz.f122.name,by decide,Tryz.func122.trans (congrArg some (by kernel_rfl))⟩,
 f72:=⟨Tryz.f123.name,by decide,Tryz.func123.trans (congrArg some (by kernel_rfl))⟩,
 f73:=⟨Tryz.f124.name,by decide,Tryz.func124.trans (congrArg some (by kernel_rfl))⟩,
 f74:=⟨Tryz.f125.name,by decide,Tryz.func125.trans (congrArg some (by kernel_rfl))⟩,
 f75:=⟨Tryz.f126.name,by decide,Tryz.func126.trans (congrArg some (by kernel_rfl))⟩,
 f76:=⟨Tryz.f128.name,by decide,Tryz.func128.trans (congrArg some (by kernel_rfl))⟩,
 f77:=⟨Tryz.f129.name,by decide,Tryz.func129.trans (congrArg some (by kernel_rfl))⟩,
 f78:=Tryz.func130.trans (congrArg some (by kernel_rfl)),
 f79:=Tryz.func131.trans (congrArg some (by kernel_rfl)),
 f88:=⟨Tryz.f148.name,by decide,Tryz.func148.trans (congrArg some (by kernel_rfl))⟩,
 f89:=Tryz.func149.trans (congrArg some (by kernel_rfl)),
 f90:=Tryz.func150.trans (congrArg some (by kernel_rfl)),
 f91:=⟨Tryz.f151.name,by decide,Tryz.func151.trans (congrArg some (by kernel_rfl))⟩,
 f92:=⟨Tryz.f152.name,by decide,Tryz.func152.trans (congrArg some (by kernel_rfl))⟩,
 f96:=⟨Tryz.f162.name,by decide,Tryz.func162.trans (congrArg some (by kernel_rfl))⟩,
 t0:=Tryz.underlying0,
 a0:=Tryz.isAgg0,
 z0:=Tryz.sizeOf0,
 v0:=Tryz.zeroValue0,
 t3:=Tryz.underlying3,
 a3:=Tryz.isAgg3,
 z3:=Tryz.sizeOf3,
 v3:=Tryz.zeroValue3,
 t4:=Tryz.underlying4,
 a4:=Tryz.isAgg4,
 z4:=Tryz.sizeOf4,
 v4:=Tryz.zeroValue4,
 t5:=Tryz.underlying5,
 a5:=Tryz.isAgg5,
 z5:=Tryz.sizeOf5,
 v5:=Tryz.zeroValue5,
 t9:=Tryz.underlying9,
 a9:=Tryz.isAgg9,
 z9:=Tryz.sizeOf9,
 v9:=Tryz.zeroValue9,
 t22:=Tryz.underlying48,
 a22:=Tryz.isAgg48,
 z22:=Tryz.sizeOf48,
 v22:=Tryz.zeroValue48,
 t23:=Tryz.underlying3,
 a23:=Tryz.isAgg3,
 z23:=Tryz.sizeOf3,
 v23:=Tryz.zeroValue3,
 t44:=Tryz.underlying155,
 a44:=Tryz.isAgg155,
 z44:=Tryz.sizeOf155,
 v44:=Tryz.zeroValue155,
 t51:=Tryz.underlying182,
 a51:=Tryz.isAgg182,
 z51:=Tryz.sizeOf182,
 v51:=Tryz.zeroValue182,
 t60:=Tryz.underlying208,
 a60:=Tryz.isAgg208,
 z60:=Tryz.sizeOf208,
 v60:=Tryz.zeroValue208,
 t61:=Tryz.underlying209,
 a61:=Tryz.isAgg209,
 z61:=Tryz.sizeOf209,
 v61:=Tryz.zeroValue209,
 t67:=Tryz.underlying216,
 a67:=Tryz.isAgg216,
 z67:=Tryz.sizeOf216,
 v67:=Tryz.zeroValue216,
 t69:=Tryz.underlying218,
 a69:=Tryz.isAgg218,
 z69:=Tryz.sizeOf218,
 v69:=Tryz.zeroValue218,
 t75:=Tryz.underlying232,
 a75:=Tryz.isAgg232,
 z75:=Tryz.sizeOf232,
 v75:=Tryz.zeroValue232,
 t79:=Tryz.underlying236,
 a79:=Tryz.isAgg236,
 z79:=Tryz.sizeOf236,
 v79:=Tryz.zeroValue236,
 t83:=Tryz.underlying242,
 a83:=Tryz.isAgg242,
 z83:=Tryz.sizeOf242,
 v83:=Tryz.zeroValue242,
 t84:=Tryz.underlying243,
 a84:=Tryz.isAgg243,
 z84:=Tryz.sizeOf243,
 v84:=Tryz.zeroValue243 }
open Go Go.Proofs Go.RowKit Go.Sort
theorem row_fr (w:World) (blk off n:Nat) (F:Array Value) (os:Array Obj):Fr (fun b=>b=blk) w (grow (putRow id (Sort.ahead w n) blk off F) os):=by
 refine ⟨rfl,rfl,rfl,?_,fun k hk hn=>?_⟩
 · simp [grow,putRow,mapBlock,Sort.ahead]
 rw [heap_grow_old _ _ (by simpa using hk)]
 have:blk≠k:=fun e=>hn e.symm;simp [putRow,mapBlock,Sort.ahead,Array.getElem?_modify,this]
theorem row_sl {α:Type} {f:α->List Value} {sz e:Nat} (hf:∀ x,(f x).length=sz) {w:World} {blk off cap n:Nat} {L L':List α} {os:Array Obj} (h:SlF w e sz f (.slice (some ⟨blk,off,none⟩) L.length cap) L) (hl:L'.length=L.length) :
 SlF (grow (putRow id (Sort.ahead w n) blk off (L'.flatMap f).toArray) os) e sz f (.slice (some ⟨blk,off,none⟩) L.length cap) L':=by
 have hF:=zak hf L';rcases h.2 with ⟨m,_⟩ | ⟨g,o,d,a,l,k,i,q,u,v⟩
 · cases m
 simp only [Value.slice.injEq,Option.some.injEq,Addr.mk.injEq,and_true] at l
 obtain ⟨⟨rfl,rfl⟩,_,rfl⟩:=l;have b:=zac k
 have t:(grow (putRow id (Sort.ahead w n) blk off (L'.flatMap f).toArray) os).heap[blk]?=some (.cells (putCells id off (L'.flatMap f).toArray a) e (0,0)):=by
  rw [heap_grow_old _ _ (by simpa using b)];simp [putRow,mapBlock,Sort.ahead,Array.getElem?_modify,k,onCells]
 have s:L.length * sz<=cap * sz:=Nat.mul_le_mul_right _ i;refine ⟨by rw [hl] at *;exact hF,.inr ⟨blk,off,cap,_,by rw [hl],t,by rw [hl];exact i,q,by simp [putCells];omega,?_⟩⟩;apply List.ext_getElem?;intro j;rw [hl];by_cases hj:j<L.length * sz
 · rw [List.getElem?_take,if_pos hj,List.getElem?_drop,Array.getElem?_toList]
   have r:off+j<a.size:=(by omega);simp only [putCells,Array.getElem?_mapIdx,Array.getElem?_eq_getElem r,Option.map_some,List.size_toArray];rw [if_pos (by rw [hF,hl];omega),show off+j-off=j from by omega];have c:j<(L'.flatMap f).length:=(by rw [hF,hl];exact hj);rw [List.getElem?_eq_getElem c];simp;rw [List.getElem?_eq_getElem c];rfl
 rw [List.getElem?_eq_none (by rw [List.length_take];omega),List.getElem?_eq_none (by rw [hF,hl];omega)]
theorem zkb (off:Nat) (zs:List Int) (cur:Array Value):putCells (Value.int .i64) off zs.toArray cur=putCells id off (zs.flatMap int1).toArray cur:=by
 have a:(zs.flatMap int1).length=zs.length:=by rw [zak zbj];omega
 apply Array.ext_getElem?;intro k;simp only [putCells,Array.getElem?_mapIdx,List.size_toArray,a]
 cases cur[k]? with
 | none=>rfl
 | some y =>
   simp only [Option.map_some];by_cases hr:off<=k/\k<off+zs.length
   · rw [if_pos hr,if_pos hr]
     have b:k-off<zs.length:=(by omega)
     have c:(zs.flatMap int1)[k-off]?=some (.int .i64 zs[k-off]):=by
      have:=zkm zbj zs (k-off) 0 (by omega);rw [Nat.mul_one,Nat.add_zero] at this;rw [this,List.getElem?_eq_getElem b];rfl
     simp [b];rw [c];rfl
   rw [if_neg hr,if_neg hr]
theorem znc (w:World) (blk off:Nat) (zs:List Int):putRow (Value.int .i64) w blk off zs.toArray=putRow id w blk off (zs.flatMap int1).toArray:=by
 unfold putRow;rw [show putCells (Value.int .i64) off zs.toArray=putCells id off (zs.flatMap int1).toArray from funext fun c=>zkb off zs c]
def sortI (zs:List Int):List Int:=zs.mergeSort fun x y=>decide (x<=y)
theorem zrx {zs:List Int} {x:Int}:x∈sortI zs↔x∈zs:=List.mem_mergeSort
theorem zpv {zs:List Int} (hn:zs.Nodup):(sortI zs).Pairwise (· < ·):=by
 have d:(sortI zs).Pairwise fun x y=>decide (x<=y)=true:=List.pairwise_mergeSort (fun a b c d e=>by simp only [decide_eq_true_eq] at *;omega) (fun a b=>by simp only [Bool.or_eq_true,decide_eq_true_eq];omega) zs;have e:(sortI zs).Nodup:=(List.mergeSort_perm zs _).nodup_iff.2 hn;exact (d.and e).imp fun {a b} ⟨h3,h4⟩=>by simp only [decide_eq_true_eq] at h3;omega
set_option maxHeartbeats 1000000 in
theorem zpu (w:World) (v:Value) (zs:List Int) (hv:SlF w 3 1 int1 v zs) (hl:zs.length<=1099511627) :
 Calls Tryz.prog 74 #[v] w fun e w'=>e=.returned (.tuple #[])/\SlF w' 3 1 int1 v (sortI zs)/\Fr (fun b=>v.ownBlock=some b) w w':=by
 obtain ⟨a,cap,rfl,m,q,f⟩:=hv.shape;by_cases h0:zs.length=0
 · have k:zs = []:=List.eq_nil_of_length_eq_zero h0
   subst k;exact (AnyG.slices_Sort_int_none zsv a cap w).mono fun _ _ ⟨c,e2⟩=>⟨c,by subst e2;rw [show sortI [] = [] from by simp [sortI]];exact hv,by subst e2;exact Fr.refl _ _⟩
 obtain ⟨g,o,rfl⟩:=f (by omega)
 have i:Holds (Value.int .i64) w g o zs.toArray:=fun j hj=>by
  rw [List.size_toArray] at hj;refine ⟨?_,hv.free _⟩;have:=hv.cell1 zbj j (List.getElem?_eq_getElem hj) rfl;rw [this];simp [hj]
 refine (AnyG.slices_Sort_int zsv g o cap zs w i (hv.lt g rfl) (by omega)).mono ?_;rintro e w' ⟨c,n,l,rfl⟩;have d:(sortI zs).length=zs.length:=List.length_mergeSort zs;rw [znc];exact ⟨c,row_sl zbj hv d,(row_fr w g o n _ l).mono fun b _ e=>by rw [e];rfl⟩
end Go.Proofs.YtdgkdfmfoonbpaaGreat