/- Own lemmas. -/
import Derived.Test.YthljnnjpmdgkoaaGreatI30
import Derived.Test.YthljnnjpmdgkoaaGreatI31
import Derived.Test.YthljnnjpmdgkoaaGreatI35
import Derived.Test.YthljnnjpmdgkoaaGreatI29
import Derived.Test.YthljnnjpmdgkoaaGreatI14
import Derived.Test.YthljnnjpmdgkoaaGreatI19
import Derived.Test.YthljnnjpmdgkoaaGreatI28
import Derived.Test.YthljnnjpmdgkoaaGreatI34
import Derived.Test.YthljnnjpmdgkoaaGreatI20
import Derived.Test.YthljnnjpmdgkoaaGreatI18
import Derived.Test.YthljnnjpmdgkoaaGreatI27
import Derived.Lib.RuneCountTail
import Derived.Laws.Runes
import Derived.PlainAid
import Derived.Deep.DeepCutAuto
import Derived.Deep.CutBlock
import Derived.Deep.RegionHeld3
namespace Go.Proofs.YthljnnjpmdgkoaaGreat
open Go Go.Proofs Go.RowKit
set_option maxRecDepth 100000
open Classical in
def LoadR (TA:zao) (b:List UInt8) (s:Rd) (D:Doc) (w:World) (e:Ending) (w':World):Prop :=
 if s.2=true then e=.returned (.tuple #[.pointer none,.int .i64 10])/\Fr No w w'
 else if s.1≠[] then e=.returned (.tuple #[.pointer none,.int .i64 12])/\Fr No w w'
 else if zbg D/\stB D.rev D.mark D.kvs D.events=b then ∃ a S F,e=.returned (.tuple #[.pointer (some ⟨a,0,none⟩),.int .i64 0])/\zaj TA w' a S F/\MadeOk D S/\(∀ b,F b->w.heap.size<=b)/\Fr No w w'
 else e=.returned (.tuple #[.pointer none,.int .i64 11])/\Fr No w w'
set_option maxHeartbeats 4000000 in
theorem zgj {TA:zao} (hT:TreeOk TA 1000000) (w:World) (b:List UInt8) (hb:b.length<=1099511627776) (g k:Nat) (s:Rd) (D:Doc) (hg:g<=10000000000) (hk:k<=10000000000) (hst:StW rdW g k (b,false) 0 0 [] [] s D.rev D.mark D.kvs D.events)
 (hok:s.2=false->s.1 = []->DocN64 D/\(D.mark<=D.rev->D.rev<=1099511627776->D.mark<=1099510000000)/\(stB D.rev D.mark D.kvs D.events).length<=140737488355328) :
 Calls Tryz.prog 45 #[.string ⟨b.toArray⟩] w (LoadR TA b s D w):=by
 have bC:∀ (fn:Fn) (first cap:Array Value) (w:World),(Instr.makeFunc fn first cap).run Tryz.prog w=.ok (.func fn first cap) w:=fun _ _ _ _=>rfl;have hL:=zai (zai (zad w (Obj.cells #[.string ⟨b.toArray⟩] 9) _ rfl) (Obj.cells #[.nilFunc,.nilFunc,.bool false] 157)) (Obj.cells #[.pointer (some ⟨w.heap.size+1,0,none⟩)] 153);have hC:=zai (zad (w.alloc (Obj.cells #[.string ⟨b.toArray⟩] 9)) (Obj.cells #[.nilFunc,.nilFunc,.bool false] 157) (w.heap.size+1) (by simp)) (Obj.cells #[.pointer (some ⟨w.heap.size+1,0,none⟩)] 153);have hB:=zad ((w.alloc (Obj.cells #[.string ⟨b.toArray⟩] 9)).alloc (Obj.cells #[.nilFunc,.nilFunc,.bool false] 157)) (Obj.cells #[.pointer (some ⟨w.heap.size+1,0,none⟩)] 153) (w.heap.size+1+1) (by simp)
 have aq:Fr No w (((w.alloc (Obj.cells #[.string ⟨b.toArray⟩] 9)).alloc (Obj.cells #[.nilFunc,.nilFunc,.bool false] 157)).alloc (Obj.cells #[.pointer (some ⟨w.heap.size+1,0,none⟩)] 153)):=(((Fr.refl No w).alloc _).alloc _).alloc _;have ay:(((w.alloc (Obj.cells #[.string ⟨b.toArray⟩] 9)).alloc (Obj.cells #[.nilFunc,.nilFunc,.bool false] 157)).alloc (Obj.cells #[.pointer (some ⟨w.heap.size+1,0,none⟩)] 153)).heap.size=w.heap.size+3:=by simp
 have HL:=H_ hL;have HC:=H_ hC;have HB:=H_ hB;have N:=H_ aq;have ah:=H_ ay;have HT:=H_ hT;have aj:=H_ hst;have aO:=H_ hok;clear hL hC hB aq ay hst hok;obtain ⟨l,am⟩:=s;go_enter Tryz.func45,Tryz.ntmps45;go_upto_region 3 with fail;generalize (((w.alloc (Obj.cells #[.string ⟨b.toArray⟩] 9)).alloc (Obj.cells #[.nilFunc,.nilFunc,.bool false] 157)).alloc (Obj.cells #[.pointer (some ⟨w.heap.size+1,0,none⟩)] 153))=t at *;obtain ⟨m,q⟩:∃ m,m=t.heap.size:=⟨_,rfl⟩;have v:=H_ q;have r:m=w.heap.size+3:=by rw [q,ah.out]
 have U:=H_ r;clear r
 go_cut [6] (fun A wx=>A=.pointer (some ⟨m,0,none⟩)/\Hid (wx.heap[m]?=some (.cells #[takeF w.heap.size (w.heap.size+1+1)] 150 (0,0)))/\Hid (Fr No t wx))
 case first =>
  have hN:=zad t (Obj.cells #[.nilFunc] 150) _ rfl;have aT:(t.alloc (Obj.cells #[.nilFunc] 150)).cell? ⟨t.heap.size,0,none⟩=some .nilFunc:=cellAt hN 0 rfl;have aU:(t.alloc (Obj.cells #[.nilFunc] 150)).frozen? ⟨t.heap.size,0,none⟩=false:=(by unfold World.frozen?;rw [hN];rfl);have HN:=H_ hN;clear hN q;go_wp2_with (with_reducible show wpList _ _ _ ({ dst:=none,op:=Op.store 150 _ _,type:=_,pos:=_,after:=_,guard:=_ } :: _) _ _;refine zcs rfl 150 _ _ rfl t.heap.size 0 .nilFunc (.func 93) #[] #[.pointer (some ⟨w.heap.size,0,none⟩),.pointer (some ⟨w.heap.size+1+1,0,none⟩)] rfl rfl (Tryz.sizeOf150 _) aT aU ?_);go_meet
  case rel=>exact ⟨by rw [v.out],H_ (by rw [v.out];first | (rw [zaa HN.out];rfl) | exact zad _ _ _ rfl),H_ (by first | exact ((Fr.refl No t).alloc _).setCell (p:=⟨t.heap.size,0,none⟩) (.inr (Nat.le_refl _)) _ | exact (Fr.refl No t).alloc _)⟩
 case rest =>
 obtain ⟨rfl,H,O⟩:=hcut;generalize o:wc=W2 at *;clear o q;have V:=O.out;have K:=V.heap HC.out id;have I:=V.heap HB.out id;have n5:W2.cell? ⟨w.heap.size+1+1,0,none⟩=some (.pointer (some ⟨w.heap.size+1,0,none⟩)):=cellAt I 0 rfl;have m0:W2.cell? ⟨w.heap.size+1,0,none⟩=some .nilFunc:=cellAt K 0 rfl;have l0:W2.frozen? ⟨w.heap.size+1,0,none⟩=false:=by unfold World.frozen?;rw [K];rfl
 have aZ:=zab I;have ae:=H_ K;have ad:=H_ I;clear K I V;go_upto_region 4 with fail
 go_cut [6] (fun A wx=>A=.pointer (some ⟨m,0,none⟩)/\Hid (wx.heap[w.heap.size+1]?=some (.cells #[rnumF m,.nilFunc,.bool false] 157 (0,0)))/\Hid (Fr (fun x=>x=w.heap.size+1) W2 wx))
 case first =>
  go_wp2_with (with_reducible show wpList _ _ _ ({ dst:=none,op:=Op.store 154 _ _,type:=_,pos:=_,after:=_,guard:=_ } :: _) _ _;refine zcs rfl 154 _ _ rfl (w.heap.size+1) 0 .nilFunc (.func 94) #[] #[.pointer (some ⟨m,0,none⟩)] rfl rfl (Tryz.sizeOf154 _) m0 l0 ?_);go_meet
  case rel=>exact ⟨rfl,H_ (by rw [zaa ae.out];rfl),H_ ((Fr.refl (fun x=>x=w.heap.size+1) W2).setCell (p:=⟨w.heap.size+1,0,none⟩) (.inl rfl) _)⟩
 case rest =>
 obtain ⟨rfl,B,u⟩:=hcut;generalize o:wc=W3 at *;clear o n5 m0 l0 aZ;have ar:=u.out;have J:=ar.heap ad.out (by omega);have n5:W3.cell? ⟨w.heap.size+1+1,0,none⟩=some (.pointer (some ⟨w.heap.size+1,0,none⟩)):=cellAt J 0 rfl;have m1:W3.cell? ⟨w.heap.size+1,1,none⟩=some .nilFunc:=cellAt B.out 1 rfl;have l1:W3.frozen? ⟨w.heap.size+1,1,none⟩=false:=by unfold World.frozen?;rw [B.out];rfl
 have b0:=zab J;have aG:=H_ J;clear J ar;go_upto_region 5 with fail
 go_cut [6] (fun A wx=>A=.pointer (some ⟨m,0,none⟩)/\Hid (wx.heap[w.heap.size+1]?=some (.cells #[rnumF m,rtxtF (w.heap.size+1+1) m,.bool false] 157 (0,0)))/\Hid (Fr (fun x=>x=w.heap.size+1) W3 wx))
 case first =>
  go_wp2_with (with_reducible show wpList _ _ _ ({ dst:=none,op:=Op.store 155 _ _,type:=_,pos:=_,after:=_,guard:=_ } :: _) _ _;refine zcs rfl 155 _ _ rfl (w.heap.size+1) 1 .nilFunc (.func 95) #[] #[.pointer (some ⟨w.heap.size+1+1,0,none⟩),.pointer (some ⟨m,0,none⟩)] rfl rfl (Tryz.sizeOf155 _) m1 l1 ?_);go_meet
  case rel=>exact ⟨rfl,H_ (by rw [zaa B.out];rfl),H_ ((Fr.refl (fun x=>x=w.heap.size+1) W3).setCell (p:=⟨w.heap.size+1,1,none⟩) (.inl rfl) _)⟩
 case rest =>
 obtain ⟨rfl,af,E⟩:=hcut;generalize o:wc=W4 at *;clear o n5 m1 l1 b0;obtain ⟨gx,c⟩:∃ gx,gx=W4.heap.size:=⟨_,rfl⟩;have d:=H_ c;go_upto_region 6 with fail
 go_cut [6,7] (fun A s7 wx=>A=.pointer (some ⟨m,0,none⟩)/\s7=.pointer (some ⟨gx,0,none⟩)/\Hid (wx.heap[gx]?=some (.cells #[.int .i64 0,.int .i64 0,.slice none 0 0,.slice none 0 0] 42 (0,0)))/\Hid (Fr No W4 wx))
 case first =>
  clear c;go_wp2_with fail;go_meet
  case rel=>exact ⟨rfl,by rw [d.out],H_ (by rw [d.out];exact zad _ _ _ rfl),H_ ((Fr.refl No W4).alloc _)⟩
 case rest =>
 obtain ⟨rfl,rfl,ag,P⟩:=hcut;generalize o:wc=W5 at *;clear o c;have Y:=zab H.out;have Z:=u.out.size;have a0:=E.out.size;have r:=U.out;have c:=d.out;have X:Fr (fun x=>x=w.heap.size+1) W2 W5:=(u.out.trans E.out fun x _ h=>h).trans P.out fun x _ h=>h.elim;have i:Fr (fun x=>x=w.heap.size+1) t W5:=(O.out.mono fun _ _ h=>h.elim).trans X fun x _ h=>h
 have an:(rdC (w.heap.size+1) w.heap.size (w.heap.size+1+1) m).At W5 (b,false) (fun x=>x=w.heap.size+1\/x=w.heap.size\/x=w.heap.size+1+1\/x=m):=by
  refine ⟨⟨9,i.heap HL.out (by omega)⟩,⟨153,i.heap HB.out (by omega)⟩,⟨157,P.out.heap af.out id⟩,⟨150,X.heap H.out (by omega)⟩,⟨by omega,by omega,by omega,by omega,by omega⟩,hb,fun x=>Iff.rfl⟩
 have ap:=zgr (rdC_ok (w.heap.size+1) w.heap.size (w.heap.size+1+1) m) W5 (b,false) (fun x=>x=w.heap.size+1\/x=w.heap.size\/x=w.heap.size+1+1\/x=m) gx 42 0 0 (.slice none 0 0) (.slice none 0 0) [] [] g k (l,am) D.rev D.mark D.kvs D.events
  an ag.out (by omega) (SlF.nil _ _ _ _) (SlF.nil _ _ _ _) (by simp [Value.ownBlock]) (by simp [Value.ownBlock]) (by simp [Value.ownBlock]) aj.out trivial (by simpa using hg) (by simpa using hk)
 have M:Calls Tryz.prog 96 #[.pointer (some ⟨w.heap.size+1,0,none⟩),.pointer (some ⟨gx,0,none⟩)] W5 _:=ap;have n5:W5.cell? ⟨w.heap.size+1+1,0,none⟩=some (.pointer (some ⟨w.heap.size+1,0,none⟩)):=cellAt (i.heap HB.out (by omega)) 0 rfl;have ai:=H_ M;have Q:=H_ i;clear ap M an Y Z a0 r c X i;go_upto_region 8 with (go_at_call 96;(with_reducible refine ai.out.mono ?_);rintro en w6 ⟨rfl,aA⟩);clear n5;obtain ⟨F6,z,y,⟨a1,a2,a3,a4,a5,a6,a7⟩,g6,k6,e6,f6,n6,o6,q6⟩:=aA;have Y:=zab H.out;have Z:=u.out.size;have a0:=E.out.size;have r:=U.out;have c:=d.out
 have f:Fr No w w6:=((N.out.mono fun _ _ h=>h.elim).trans Q.out fun j hj h=>by omega).trans f6 fun j hj h=>by
  rcases h with (h | h | h | h) | h | h | h
  · omega
  · omega
  · omega
  · omega
  · omega
  · simp [Value.ownBlock] at h
  simp [Value.ownBlock] at h
 have aX:=N.out.size;have aY:=Q.out.size
 have aw:∀ b,z.ownBlock=some b->w.heap.size<=b:=fun b hb=>by
  rcases o6 b hb with h | h
  · simp [Value.ownBlock] at h
  omega
 have ax:∀ b,y.ownBlock=some b->w.heap.size<=b:=fun b hb=>by
  rcases q6 b hb with h | h
  · simp [Value.ownBlock] at h
  omega
 have aN:=H_ aw;have aP:=H_ ax;have c6:=a2.cell 0 rfl;have d6:=a3.cell 2 rfl;have A:=a1.cell 0 rfl;have HA:=H_ f;have R:=H_ g6;have G:=H_ k6;have C:=H_ e6;clear Y Z a0 r c f a1 a2 a3 a4 a5 a6 a7 f6 n6 g6 k6 e6 o6 q6 aw ax aX aY;clear HL HC HB N ah v U H O ae ad B u aG af E d ag P ai Q aj;dsimp only at d6 A
 cases am with
 | true =>
   go_wp2_with fail
   go_ret2
   unfold LoadR;rw [if_pos rfl];exact ⟨rfl,HA.out⟩
 | false =>
   cases l with
   | cons x l =>
     go_wp2_with fail
     go_ret2
     unfold LoadR;rw [if_neg (by simp),if_pos (by simp)];exact ⟨rfl,HA.out⟩
   | nil =>
     obtain ⟨n0,n1,n2,n3⟩:=cells4 R.out;obtain ⟨o1,o2,o3⟩:=aO.out rfl rfl;have hM:Calls Tryz.prog 24 #[.agg #[.int .i64 D.rev,.int .i64 D.mark,z,y]] w6 (MadeR TA D w6):=zul HT.out w6 D z y ⟨G.out.toR (fun _=>rfl),C.out.toR (fun _=>rfl)⟩ o1 o2;have aL:=H_ o1;have aM:=H_ o3;have HM:=H_ hM;clear o1 o2 o3 hM;by_cases hr:zbg D
     · have T:=H_ (HM.out.mono fun e w' h=>h.get hr)
       clear HM;go_upto_region 13 with (go_at_call 24;(with_reducible refine T.out.mono ?_);rintro en w7 ⟨a,S,F,rfl,az,aW,ao,n⟩);have aV:=zab R.out;have au:=n.heap R.out id;obtain ⟨p0,p1,p2,p3⟩:=cells4 au;have av:=aL.out.len;have hW:Calls Tryz.prog 92 #[.agg #[.int .i64 D.rev,.int .i64 D.mark,z,y]] w7 _:=zhg w7 D.rev D.mark z y D.kvs D.events (G.out.fr0 n) (C.out.fr0 n) (SlF.apart G.out C.out (by decide)) aM.out (by omega) (by omega);have HW:=H_ hW;have aQ:=H_ az;have aH:=H_ n;have ak:=H_ ao;have aJ:=H_ G.out.lt;have aK:=H_ C.out.lt;clear hW az n ao au av aV n0 n1 n2 n3 c6 d6 A;go_upto_region 14 with (go_at_call 92;(with_reducible refine HW.out.mono ?_);rintro en w8 ⟨rfl,W⟩)
       all_goals (have f:Fr No w w8:=(HA.out.trans0 aH.out).trans W fun j hj h=>by
                   rcases h with h | h
                   · have:=aN.out j h;omega
                   have:=aP.out j h;omega)
       all_goals have L:=H_ f
       all_goals have aI:=H_ W
       all_goals clear f W p0 p1 p2 p3
       · rename_i hc _ _
         go_wp2_with fail
         go_ret2
         unfold LoadR;rw [if_neg (by simp),if_neg (by simp),if_neg (fun h=>by rw [h.2] at hc;simp at hc)];exact ⟨rfl,L.out⟩
       rename_i hc
       go_ret2
       unfold LoadR;rw [if_neg (by simp),if_neg (by simp),if_pos ⟨hr,by simpa using hc⟩];refine ⟨a,S,F,rfl,zaj.fr HT.out aQ.out aI.out fun x hx h=>?_,aW,fun x hx=>?_,L.out⟩
       · have:=ak.out x hx
         rcases h with h | h
         · have:=aJ.out x h;omega
         have:=aK.out x h;omega
       have:=ak.out x hx
       have:=HA.out.size;omega
     have T:=H_ (HM.out.mono (R':=fun e w'=>e=.returned (.tuple #[.pointer none,.int .i64 1])/\Fr No w6 w') fun e w' h=>h.elim (fun h=>absurd h.1 hr) (fun h=>h.2))
     clear HM;go_wp2_with (go_at_call 24;(with_reducible refine T.out.mono ?_);rintro en w7 ⟨rfl,n⟩)
     go_ret2
     unfold LoadR;rw [if_neg (by simp),if_neg (by simp),if_neg (fun h=>hr h.1)];exact ⟨rfl,HA.out.trans0 n⟩
theorem rb {a b:Bool} (h:a=b):Ending.returned (.bool a)=.returned (.bool b):=by rw [h]
def PrevOk (D:Doc):Prop:=∀ e∈D.events,e.prev=kv0\/e.prev.key=e.kv.key
theorem zzp {l:List Kv} {k:ByteArray}:(hasL l k).getD kv0=kv0\/((hasL l k).getD kv0).key=k:=by
 unfold hasL
 cases h:l.find? fun x=>keq x.key k with
 | none=>exact .inl rfl
 | some y =>
   have:=List.find?_some h;exact .inr (zas.1 this)
theorem PrevOk.cut {D:Doc} (h:PrevOk D) (R:Int):PrevOk (D.cut R):=fun e he=>h e (List.mem_filter.1 he).1
theorem DocOk.prevs {n:Nat} {D:Doc} (h:DocOk n D) {e:Ev} (he:e∈D.events) (hm:D.mark<e.kv.mod):e.prev=kv0\/e.prev.key=e.kv.key:=by
 obtain ⟨A,B,a⟩:=List.append_of_mem he;rw [h.prev A e B a hm];exact zzp
theorem PrevOk.adds {n:Nat} {D:Doc} {E:List Ev} (h:PrevOk D) (hd:DocOk n (D.adds E)) (hm:∀ e∈E,e.kv.mod=D.rev+1) (hmr:D.mark<=D.rev):PrevOk (D.adds E):=by
 obtain ⟨a,b,c⟩:=Doc.adds_parts D E;intro e g;have d:=g;rw [c] at d;rcases List.mem_append.1 d with f | f
 · exact h e f
 exact hd.prevs g (by rw [a,hm e f];omega)
theorem zwn {k:Nat} {S:St} {D:Doc} (h:Good k S D) (hk:k<=70) {q:CalQ} (hq:fewCal q=true) (hD:PrevOk D):PrevOk (doD S D q):=by
 obtain ⟨c,f,d,g,i⟩:=zdh hq;have b:=h.cpl.m0;unfold doD;by_cases h4:kindN q.1.kind=4
 · rw [if_pos h4];exact hD
 rw [if_neg h4]
 by_cases h5:kindN q.1.kind=5
 · rw [if_pos h5]
   split
   · exact hD.cut _
   exact hD
 rw [if_neg h5]
 by_cases h6:kindN q.1.kind=6
 · rw [if_pos h6];exact hD
 rw [if_neg h6]
 by_cases h7:kindN q.1.kind=7
 · rw [if_pos h7]
   obtain ⟨a,_⟩:=h.drops hk q.2.2 d q.2.2.length (Nat.le_refl _);have e:dropTo (D.rev+1) S q.2.2 q.2.2.length=q.2.2.foldl (dropR (D.rev+1)) (S,[]):=(by unfold dropTo;rw [List.take_length]);rw [e] at a;exact hD.adds a.doc a.mods b.2
 rw [if_neg h7]
 by_cases ha:applyE S q.2.1=0
 · rw [if_pos ha]
   obtain ⟨⟨a,_⟩,_⟩:=h.runs hk (zbv ha).1 (fun o ho=>by have:=(c o ho).1;omega) q.2.1.length (Nat.le_refl _);rw [List.take_length] at a;exact hD.adds a.doc a.mods b.2
 rw [if_neg ha];exact hD
theorem zuy {l:List CalQ} (h:zba l=true):∀ i≤ l.length,PrevOk (donesT l i).2:=by
 obtain ⟨f,b⟩:=zar h;have d:=zbe h;intro i
 induction i with
 | zero=>intro _ e c;simp [donesT,newD] at c
 | succ i ih =>
   intro g;obtain ⟨q,a⟩:∃ q,l[i]?=some q:=⟨_,List.getElem?_eq_getElem (by omega)⟩;rw [zcq l a];exact zwn (d i (by omega)) (by omega) (b q (List.mem_of_getElem? a)) (ih (by omega))
theorem zzw {l:List CalQ} (h:zba l=true):DocSm (donesT l l.length).2:=by
 obtain ⟨f,_⟩:=zar h;have a:=zbe h l.length (Nat.le_refl _);have b:=zdo h l.length (Nat.le_refl _);have c:=zuy h l.length (Nat.le_refl _);generalize donesT l l.length=d at *;obtain ⟨S,D⟩:=d;dsimp only at a b c ⊢
 refine ⟨fun k hk=>?_,fun x hx=>⟨?_,?_⟩,?_⟩
 · have:=(zek (b.kvs k hk)).2;omega
 · have:=(zek (b.evs x hx)).2;omega
 · have j:=(zek (b.evs x hx)).2
   rcases c x hx with e | e
   · rw [e];show ByteArray.empty.size<=_;exact Nat.zero_le _
   rw [e];omega
 have g:D.events.length<=20000 * l.length:=by have:=a.ok.ev;rw [<-a.cpl.events];omega
 have i:D.kvs.length<=16 * l.length:=by
  have f:=a.size;rw [<-zeg a];unfold zap;exact Nat.le_trans (List.length_filterMap_le _ _) (by omega)
 omega
def rg0 (key:ByteArray):Rg:=⟨key,ByteArray.empty,0,0,false,false,false⟩
def bA:ByteArray:=⟨#[97]⟩
def b1:ByteArray:=⟨#[49]⟩
def b2:ByteArray:=⟨#[50]⟩
def putO (k v:ByteArray):Opr:=⟨1,rg0 k,v,0⟩
def bareIf (g:Rg) (x:Kv):Kv:=if g.keys then { x with value:=ByteArray.empty } else x
def allA (g:Rg) (l:List Kv):List Kv:=(if g.desc then l.reverse else l).filter fun y=>inB y.key g.key g.end_
def outN (g:Rg) (n:Nat):Nat:=if g.limit=0 then n else min n g.limit.toNat
def outA (g:Rg) (l:List Kv):List Kv:=if g.count then [] else ((allA g l).take (outN g (allA g l).length)).map (bareIf g)
def moreA (g:Rg) (l:List Kv):Bool:=!g.count&&decide ((outA g l).length<(allA g l).length)
theorem zwq (g:Rg) (n:Nat):outN g n<=n:=by unfold outN;split <;> omega
theorem zyw {g:Rg} (hc:g.count=false) (l:List Kv):(outA g l).length=outN g (allA g l).length:=by
 unfold outA;rw [hc];have:=zwq g (allA g l).length;simp only [Bool.false_eq_true,if_false,List.length_map,List.length_take];omega
theorem zuk (g:Rg) (l:List Kv):l.map (bareIf g)=if g.keys then l.map (fun x=>{ x with value:=ByteArray.empty }) else l:=by
 unfold bareIf;cases g.keys
 · simp
 simp
theorem zut {S:St} {g:Rg} {rev:Int} {l:List Kv} (h:allL S g rev=l.filter fun y=>inB y.key g.key g.end_) (h0:0<=g.limit) :
 getL S g rev=outA g l/\(allL S g rev).length=(allA g l).length/\moreB S g rev=moreA g l:=by
 have d:allA g l=if g.desc then (allL S g rev).reverse else allL S g rev:=by
  unfold allA;rw [h]
  split
  · rw [List.filter_reverse]
  rfl
 have a:(allL S g rev).length=(allA g l).length:=by
  rw [d];split <;> simp
 cases hc:g.count with
 | true =>
   refine ⟨?_,a,?_⟩
   · unfold getL outA;rw [hc];rfl
   unfold moreB moreA;rw [hc];rfl
 | false =>
   have e:=zyw hc l
   have b:moreB S g rev=moreA g l:=by
    unfold moreB moreA;rw [hc,e,a];unfold outN;rw [Bool.eq_iff_iff];simp only [Bool.not_false,Bool.true_and,Bool.and_eq_true,decide_eq_true_eq]
    split
    · omega
    omega
   refine ⟨?_,a,b⟩;unfold getL outA;rw [hc,zuk,<-d];simp only [Bool.false_eq_true,if_false]
   have:cutL g (moreB S g rev) (allA g l)=(allA g l).take (outN g (allA g l).length):=by
    unfold cutL;rw [b];unfold moreA;rw [hc,e];by_cases hm:outN g (allA g l).length<(allA g l).length
    · rw [decide_eq_true hm]
      unfold outN at hm ⊢
      split at hm
      · omega
      rename_i hl
      rw [if_neg hl];simp only [Bool.not_false,Bool.true_and,if_true];have c:min (allA g l).length g.limit.toNat=g.limit.toNat:=(by omega);rw [c]
    have c:outN g (allA g l).length=(allA g l).length:=by have:=zwq g (allA g l).length;omega
    rw [decide_eq_false hm,c,List.take_length]
    rfl
   rw [this]
structure RunD where
 now:List Kv
 A:List Ans
 E:List Ev
def wasL (l:List Kv) (key:ByteArray):Kv:=(hasL l key).getD kv0
def putD (l:List Kv) (o:Opr) (rev:Int):Ev :=
 ⟨1,⟨o.rg.key,o.value,if (wasL l o.rg.key).version=0 then rev else (wasL l o.rg.key).create,rev,(wasL l o.rg.key).version+1,o.lease⟩,wasL l o.rg.key⟩
def delG (o:Opr):Rg:=⟨o.rg.key,o.rg.end_,0,0,false,false,false⟩
def getD (D:Doc) (now:List Kv) (o:Opr):List Kv:=if o.rg.rev≠0 then D.at o.rg.rev else now
def stepD (D:Doc) (r:RunD) (o:Opr):RunD :=
 if o.kind=1 then ⟨doneL r.now (putD r.now o (D.rev+1)),r.A++[⟨1,told (putD r.now o (D.rev+1)),(told (putD r.now o (D.rev+1))).length,false⟩],r.E++[putD r.now o (D.rev+1)]⟩
 else if o.kind=3 then ⟨r.now,r.A++[⟨3,outA o.rg (getD D r.now o),(allA o.rg (getD D r.now o)).length,moreA o.rg (getD D r.now o)⟩],r.E⟩
 else ⟨(outA (delG o) r.now).foldl (fun l x=>doneL l (goneE x (D.rev+1))) r.now,r.A++[⟨o.kind,outA (delG o) r.now,(outA (delG o) r.now).length,false⟩],r.E++(outA (delG o) r.now).map fun x=>goneE x (D.rev+1)⟩
def runD (D:Doc) (ops:List Opr):RunD:=ops.foldl (stepD D) ⟨D.at D.rev,[],[]⟩
theorem zkc (D:Doc) (ops:List Opr) {i:Nat} {o:Opr} (h:ops[i]?=some o):runD D (ops.take (i+1))=stepD D (runD D (ops.take i)) o:=by
 unfold runD;rw [List.take_add_one,h,List.foldl_append]
 rfl
theorem zji (o:Opr) (l:List Kv):outA (delG o) l=l.filter fun y=>inB y.key o.rg.key o.rg.end_:=by
 unfold outA allA outN delG bareIf;simp
theorem Doc.adds_append (D:Doc) (E G:List Ev):D.adds (E++G)=(D.adds E).adds G:=by unfold Doc.adds;rw [List.foldl_append]
theorem Doc.adds_at {r:Int} (G:List Ev):∀ D:Doc,(∀ e∈G,D.mark<e.kv.mod/\e.kv.mod<=r)->(D.adds G).at r=G.foldl doneL (D.at r):=by
 induction G with
 | nil=>intro D _;rfl
 | cons x G ih =>
   intro D h;have a:=h x List.mem_cons_self;have e:D.adds (x :: G)=(D.add x).adds G:=rfl;rw [e,ih (D.add x) fun e he=>h e (List.mem_cons_of_mem _ he),Doc.add_at D x a.1,if_pos a.2]
   rfl
theorem zzas (rev:Int) (L:List Kv) (h:∀ x∈L,1<=x.version):∀ q:St×List Kv×List Ev,(L.foldl (goneR rev) q).2.1=q.2.1++L:=by
 induction L with
 | nil=>intro q;simp
 | cons x L ih =>
   intro q;rw [List.foldl_cons,ih fun y hy=>h y (List.mem_cons_of_mem _ hy)];unfold goneR;rw [zop (h x List.mem_cons_self)];simp
theorem zpf {o:Opr} (h:oneE o=0):o.kind=1\/o.kind=2\/o.kind=3:=by
 unfold oneE at h;by_cases h3:o.kind=3
 · exact .inr (.inr h3)
 rw [if_neg h3] at h
 by_cases h2:o.kind=2
 · exact .inr (.inl h2)
 rw [if_neg h2] at h
 by_cases h1:o.kind=1
 · exact .inl h1
 rw [if_neg h1] at h;cases h
theorem zxz {g:Rg} (h:askE g=0):0<=g.rev/\0<=g.limit:=by
 unfold askE at h
 split at h
 · rename_i hk;exact absurd h hk
 split at h
 · cases h
 split at h
 · cases h
 omega
theorem ztw {S:St} {rev:Int} (h:whenE S rev=0):rev<=S.rev/\(rev≠0->S.mark<=rev):=by
 unfold whenE at h
 split at h
 · cases h
 split at h
 · cases h
 omega
theorem zql {S:St} {ops:List Opr} (h:whenAll S ops=0) {o:Opr} (ho:o∈ops) (h3:o.kind=3):whenE S o.rg.rev=0:=by
 unfold whenAll at h
 cases hf:ops.find? (fun o=>o.kind==3&&whenE S o.rg.rev != 0) with
 | none =>
   have:=List.find?_eq_none.1 hf o ho;simpa [h3] using this
 | some q =>
   rw [hf] at h;have:=List.find?_some hf;simp at this;exact absurd h this.2
theorem Good.at_next {k:Nat} {S:St} {D:Doc} (h:Good k S D):D.at (D.rev+1)=D.at D.rev:=Doc.at_late (fun e he=>(h.doc.lo e he).2.2) (by omega) (Int.le_refl _)
theorem Good.runD {k:Nat} {S:St} {D:Doc} (h:Good k S D) (hk:k<=70) {ops:List Opr} (hc:checkE ops=0) (hw:whenAll S ops=0) (hks:∀ o∈ops,o.rg.key.size<=1099511627776) :
 ∀ i≤ ops.length,(Go.Proofs.YthljnnjpmdgkoaaGreat.runD D (ops.take i)).now=(D.adds (runR (D.rev+1) ⟨S,[],[]⟩ (ops.take i)).E).at (D.rev+1) ∧
  (Go.Proofs.YthljnnjpmdgkoaaGreat.runD D (ops.take i)).A=(runR (D.rev+1) ⟨S,[],[]⟩ (ops.take i)).A/\(Go.Proofs.YthljnnjpmdgkoaaGreat.runD D (ops.take i)).E=(runR (D.rev+1) ⟨S,[],[]⟩ (ops.take i)).E:=by
 intro i
 induction i with
 | zero=>intro _;exact ⟨h.at_next.symm,rfl,rfl⟩
 | succ i ih =>
   intro X;obtain ⟨l,J,K⟩:=ih (by omega);obtain ⟨o,H⟩:∃ o,ops[i]?=some o:=⟨_,List.getElem?_eq_getElem (by omega)⟩;have w:=List.mem_of_getElem? H;have a:=(zcz hc).2.1 o w;obtain ⟨⟨j,_⟩,_⟩:=h.runs hk hc hks i (by omega);rw [zkc _ _ H,zkb _ _ _ H];generalize Go.Proofs.YthljnnjpmdgkoaaGreat.runD D (ops.take i)=q at *;generalize runR (D.rev+1) ⟨S,[],[]⟩ (ops.take i)=r at *;obtain ⟨b,U,V⟩:=q;dsimp only at l J K;subst J K;have v:=h.cpl.m0;have d:=Doc.adds_parts D r.E;have g:(D.adds r.E).mark<=D.rev+1:=(by rw [d.1];omega);have u:KSorted (D.adds r.E).kvs:=(by rw [d.2.1];exact h.cpl.ks);have F:=j.cpl.lives o.rg.key (D.rev+1) g
   have C:(livesS r.S o.rg.key (D.rev+1)).1=wasL b o.rg.key:=by
    unfold wasL;rw [F,l];cases hasL ((D.adds r.E).at (D.rev+1)) o.rg.key <;> rfl
   have f:∀ G:List Ev,(∀ e∈G,e.kv.mod=D.rev+1)->(D.adds (r.E++G)).at (D.rev+1)=G.foldl doneL b:=fun G hG=>by
    rw [Doc.adds_append,Doc.adds_at G (D.adds r.E) fun e he=>by rw [d.1,hG e he];omega,<-l]
   rcases zpf a with s | t | c
   · have T:zbc r.S o (D.rev+1)=putD b o (D.rev+1):=by unfold zbc putD;rw [C]
     unfold stepD stepR;rw [if_pos s,if_pos s,T];refine ⟨?_,rfl,rfl⟩;dsimp only;rw [f _ fun e he=>by rw [List.mem_singleton.1 he];rfl]
     rfl
   · have m:¬ o.kind=1:=by omega
     have R:¬ o.kind=3:=(by omega);have B:zbh r.S o.rg.key o.rg.end_ (D.rev+1)=outA (delG o) b:=(by rw [j.between v.2,<-l,zji])
     have z:∀ x∈outA (delG o) b,1<=x.version:=fun x hx=>by
      rw [zji,l] at hx;exact (j.doc.ver_at u (List.mem_filter.1 hx).1).1
     unfold stepD stepR;rw [if_neg m,if_neg m,if_neg R,if_pos t,B];dsimp only;refine ⟨?_,?_,?_⟩
     · rw [zrh]
       dsimp only;rw [f _ fun e he=>by obtain ⟨x,_,rfl⟩:=List.mem_map.1 he;rfl,List.foldl_map]
     · rw [zzas _ _ z]
       dsimp only;rw [t]
       rfl
     rw [zrh]
   have m:¬ o.kind=1:=by omega
   have Q:¬ o.kind=2:=(by omega)
   have p:askE o.rg=0:=by
    unfold oneE at a;rw [if_pos c] at a;exact a
   obtain ⟨W,P⟩:=zxz p;obtain ⟨O,I⟩:=ztw (zql hw w c);rw [h.rev] at O;rw [h.cpl.mark] at I
   have n:allL r.S o.rg (D.rev+1)=(getD D b o).filter fun y=>inB y.key o.rg.key o.rg.end_:=by
    unfold allL revOf getD;by_cases hz:o.rg.rev≠0
    · rw [if_pos hz,if_pos hz]
      unfold zbh;rw [j.cpl.between j.srt _ _ (by rw [d.1];exact I hz),Doc.adds_at_old D r.E fun e he=>by rw [j.mods e he];omega]
      congr 1
      funext y
      exact zwg _ _ _
    rw [if_neg hz,if_neg hz,j.between v.2,<-l]
   obtain ⟨L,M,N⟩:=zut n P;unfold stepD stepR;rw [if_neg m,if_neg m,if_pos c,if_neg Q,if_pos c,L,M,N];exact ⟨l,rfl,rfl⟩
def znz (D:Doc) (E:List Ev):Doc:=if E = [] then D else ⟨D.rev+1,D.mark,D.kvs,D.events++E⟩
theorem zli (D:Doc) (E:List Ev) (h:∀ e∈E,e.kv.mod=D.rev+1):D.adds E=znz D E:=by
 have d:=Doc.adds_rev D E _ h;have f:=Doc.adds_parts D E;unfold znz;by_cases hE:E = []
 · subst hE;rfl
 rw [if_neg hE] at d ⊢
 obtain ⟨a,b,c⟩:=f;cases hD:D.adds E
 rw [hD] at d a b c;dsimp only at d a b c;rw [d,a,b,c]
def whenD (D:Doc) (rev:Int):Int:=if D.rev<rev then 33 else if rev≠0/\rev<D.mark then 32 else 0
theorem Good.when {k:Nat} {S:St} {D:Doc} (h:Good k S D) (rev:Int):whenE S rev=whenD D rev:=by unfold whenE whenD;rw [h.rev,h.cpl.mark]
def zhi (D:Doc) (ops:List Opr):Int:=match ops.find? fun o=>o.kind==3&&whenD D o.rg.rev != 0 with
 | some o=>whenD D o.rg.rev
 | none=>0
theorem Good.whenAll {k:Nat} {S:St} {D:Doc} (h:Good k S D) (ops:List Opr):Go.Proofs.YthljnnjpmdgkoaaGreat.whenAll S ops=zhi D ops:=by
 unfold Go.Proofs.YthljnnjpmdgkoaaGreat.whenAll zhi;simp only [h.when];cases ops.find? (fun o=>o.kind==3&&whenD D o.rg.rev != 0) <;> rfl
def zlh (D:Doc) (ops:List Opr):Int:=if checkE ops≠0 then checkE ops else if zhi D ops≠0 then zhi D ops else if (runD D ops).E≠[]/\top<=D.rev then 37 else 0
def zoc (D:Doc) (ops:List Opr):Doc:=if zlh D ops=0 then znz D (runD D ops).E else D
theorem Good.applyDoc {k:Nat} {S:St} {D:Doc} (h:Good k S D) (hk:k<=70) {ops:List Opr} (hks:∀ o∈ops,o.rg.key.size<=1099511627776) :
 applyE S ops=zlh D ops/\(applyE S ops=0->(runR (S.rev+1) ⟨S,[],[]⟩ ops).A=(Go.Proofs.YthljnnjpmdgkoaaGreat.runD D ops).A/\(runR (S.rev+1) ⟨S,[],[]⟩ ops).E=(Go.Proofs.YthljnnjpmdgkoaaGreat.runD D ops).E/\applyD S D ops=zoc D ops):=by
 have g:=h.rev1
 have e:applyE S ops=zlh D ops:=by
  unfold applyE zlh;rw [h.whenAll];by_cases h1:checkE ops≠0
  · rw [if_pos h1,if_pos h1]
  rw [if_neg h1,if_neg h1]
  by_cases h2:zhi D ops≠0
  · rw [if_pos h2]
  rw [if_neg h2,if_neg fun hh=>by have:=hh.2;unfold top at this;omega]
  simpa using h2
 refine ⟨e,fun h0=>?_⟩;obtain ⟨d,f⟩:=zbv h0;obtain ⟨_,a,b⟩:=h.runD hk d f hks ops.length (Nat.le_refl _);obtain ⟨⟨c,_⟩,_⟩:=h.runs hk d hks ops.length (Nat.le_refl _);rw [List.take_length] at a b c;rw [h.rev];refine ⟨a.symm,b.symm,?_⟩;unfold applyD zoc;rw [if_pos (e▸h0),b];exact zli D _ c.mods
def dropQ (rev:Int) (q:List Kv×List Ev) (k:ByteArray):List Kv×List Ev :=
 if 0<(wasL q.1 k).version then (doneL q.1 (dropE k rev (wasL q.1 k)),q.2++[dropE k rev (wasL q.1 k)]) else q
def dropsQ (D:Doc) (keys:List ByteArray):List Kv×List Ev:=keys.foldl (dropQ (D.rev+1)) (D.at D.rev,[])
theorem zhc (D:Doc) (keys:List ByteArray) {i:Nat} {k:ByteArray} (h:keys[i]?=some k):dropsQ D (keys.take (i+1))=dropQ (D.rev+1) (dropsQ D (keys.take i)) k:=by
 unfold dropsQ;rw [List.take_add_one,h,List.foldl_append]
 rfl
def dropDE (D:Doc) (keys:List ByteArray):Int:=if (dropsQ D keys).2≠[]/\top<=D.rev then 37 else 0
def dropDD (D:Doc) (keys:List ByteArray):Doc:=if dropDE D keys=0 then znz D (dropsQ D keys).2 else D
theorem Good.dropsQ {k:Nat} {S:St} {D:Doc} (h:Good k S D) (hk:k<=70) (keys:List ByteArray) (hl:keys.length<=30) :
 ∀ i≤ keys.length,Go.Proofs.YthljnnjpmdgkoaaGreat.dropsQ D (keys.take i)=((D.adds (dropTo (D.rev+1) S keys i).2).at (D.rev+1),(dropTo (D.rev+1) S keys i).2):=by
 intro i
 induction i with
 | zero=>intro _;exact Prod.ext h.at_next.symm rfl
 | succ i ih =>
   intro n;obtain ⟨x,g⟩:∃ x,keys[i]?=some x:=⟨_,List.getElem?_eq_getElem (by omega)⟩;obtain ⟨f,_⟩:=h.drops hk keys hl i (by omega);rw [zhc _ _ g,zfg _ _ _ g,ih (by omega)];generalize dropTo (D.rev+1) S keys i=q at *;have j:=h.cpl.m0;have b:=Doc.adds_parts D q.2;have a:KSorted (D.adds q.2).kvs:=(by rw [b.2.1];exact h.cpl.ks);have c:=f.cpl.lives x (D.rev+1) (by rw [b.1];omega);unfold dropQ dropR;dsimp only
   have l:(livesS q.1 x (D.rev+1)).1=wasL ((D.adds q.2).at (D.rev+1)) x:=by
    unfold wasL;rw [c];cases hasL ((D.adds q.2).at (D.rev+1)) x <;> rfl
   have d:(livesS q.1 x (D.rev+1)).2=true↔0<(wasL ((D.adds q.2).at (D.rev+1)) x).version:=by
    unfold wasL;rw [c]
    cases hh:hasL ((D.adds q.2).at (D.rev+1)) x with
    | none=>exact ⟨fun e=>(by cases e),fun e=>(by have m:(0:Int)<0:=e;omega)⟩
    | some y =>
      have:=(f.doc.ver_at a ((zbm (Doc.at_sorted a _) x y).1 hh).1).1;exact ⟨fun _=>(by show 0<y.version;omega),fun _=>rfl⟩
   by_cases hv:0<(wasL ((D.adds q.2).at (D.rev+1)) x).version
   · rw [if_pos hv,if_pos (d.2 hv),l]
     dsimp only;rw [Doc.adds_append,Doc.adds_at [dropE x (D.rev+1) (wasL ((D.adds q.2).at (D.rev+1)) x)] (D.adds q.2) fun e he=>by rw [b.1,List.mem_singleton.1 he];show D.mark<D.rev+1/\D.rev+1<=D.rev+1;omega]
     rfl
   rw [if_neg hv,if_neg fun e=>hv (d.1 e)]
theorem Good.dropDoc {k:Nat} {S:St} {D:Doc} (h:Good k S D) (hk:k<=70) (keys:List ByteArray) (hl:keys.length<=30) :
 dropDE D keys=0/\(keys.foldl (dropR (S.rev+1)) (S,[])).2=(Go.Proofs.YthljnnjpmdgkoaaGreat.dropsQ D keys).2/\dropD S D keys=dropDD D keys:=by
 have e:=h.rev1;have b:dropDE D keys=0:=by unfold dropDE;rw [if_neg fun hh=>by have:=hh.2;unfold top at this;omega]
 have a:=h.dropsQ hk keys hl keys.length (Nat.le_refl _);obtain ⟨d,_⟩:=h.drops hk keys hl keys.length (Nat.le_refl _);have c:dropTo (D.rev+1) S keys keys.length=keys.foldl (dropR (D.rev+1)) (S,[]):=by unfold dropTo;rw [List.take_length]
 rw [List.take_length,c] at a;rw [c] at d;refine ⟨b,by rw [a,h.rev],?_⟩;unfold dropD dropDD;rw [if_pos b,a];exact zli D _ d.mods
def zwh (D:Doc) (g:Rg):Int:=if askE g≠0 then askE g else whenD D g.rev
def znt (D:Doc) (a b:Int):Int:=if a<1\/b<a then 1 else if D.rev<b then 33 else if a<D.mark then 32 else 0
def zgc (D:Doc) (rev:Int):Int:=if D.rev<rev then 33 else if rev<=D.mark then 32 else 0
theorem Good.eventsDoc {k:Nat} {S:St} {D:Doc} (h:Good k S D) (a b:Int):zga S a b=znt D a b/\S.events=D.events:=by
 refine ⟨?_,h.cpl.events⟩;unfold zga znt;rw [h.rev,h.cpl.mark]
theorem Good.compactDoc {k:Nat} {S:St} {D:Doc} (h:Good k S D) (rev:Int):zbu S rev=zgc D rev:=by
 unfold zbu zgc;rw [h.rev,h.cpl.mark]
end Go.Proofs.YthljnnjpmdgkoaaGreat