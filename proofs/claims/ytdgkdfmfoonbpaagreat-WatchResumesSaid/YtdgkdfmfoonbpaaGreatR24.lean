/- Own lemmas. -/
import Derived.Test.YtdgkdfmfoonbpaaGreatR23
import Derived.Test.YtdgkdfmfoonbpaaGreatR13
import Derived.Test.YtdgkdfmfoonbpaaGreatR15
import Derived.Test.YtdgkdfmfoonbpaaGreatR19
import Derived.Test.YtdgkdfmfoonbpaaGreatR17
import Derived.Test.YtdgkdfmfoonbpaaGreatR06
import Derived.Deep.DeepCutAuto
namespace Go.Proofs.YtdgkdfmfoonbpaaGreat
open Go Go.Proofs Go.RowKit
set_option maxRecDepth 100000
theorem zsc {es:Array MapEntry} {seen:Array Nat} {e:MapEntry} (hnd:(es.toList.map (·.born)).Nodup) (he:e∈es.toList) {P:MapEntry->Prop} (h:∀ x∈es.toList,seen.contains x.born=true->P x) (hP:P e) :
 ∀ x∈es.toList,(seen.push e.born).contains x.born=true->P x:=by
 intro x f a;rw [contains_push,Bool.or_eq_true] at a;rcases a with a | a
 · exact h x f a
 have k:x.born=e.born:=by simpa using a
 have:x=e:=by
  obtain ⟨i,b⟩:=List.mem_iff_getElem?.1 f;obtain ⟨j,d⟩:=List.mem_iff_getElem?.1 he;have c:=(List.getElem?_eq_some_iff.1 b).1;have g:(es.toList.map (·.born))[i]?=(es.toList.map (·.born))[j]?:=(by rw [List.getElem?_map,List.getElem?_map,b,d];simp [k]);have:=(List.getElem?_inj (by simpa using c) hnd).1 g;subst this;rw [b] at d;exact Option.some.inj d
 rw [this];exact hP
theorem zlz {es:Array MapEntry} {seen:Array Nat} (h:(leftOf es seen).size=0):∀ x∈es.toList,seen.contains x.born=true:=by
 intro x b
 cases hc:seen.contains x.born with
 | true=>rfl
 | false =>
   have a:x∈leftOf es seen:=Array.mem_filter.2 ⟨by simpa using b,by rw [hc];rfl⟩;have:=Array.size_pos_of_mem a;omega
set_option maxHeartbeats 4000000 in
theorem zki (w:World) (h:Nat) (H:Hist) (rev:Int) (F:Nat->Prop) (hh:HistAt w h H F) (hK:Fits H.gens) (hl:∃ l:List Int,l.length<=1099511627/\∀ r,H.kvs r≠none->r∈l) :
 Calls Tryz.prog 82 #[.pointer (some ⟨h,0,none⟩),.int .i64 rev] w fun e w'=>∃ v out,e=.returned v/\SlF w' 3 1 int1 v out/\Fr No w w'/\(∀ b,v.ownBlock=some b->w.heap.size<=b)/\(∀ r,r∈out↔goneK H rev r):=by
 obtain ⟨g,m,FK,a,hF⟩:=hh;have C:=fun W (hW:Fr No w W)=>zpm W g H.gens H.last rev FK (a.key.fr hW fun _ _ h=>h) hK
 unfold zhy seenV at C;have c0:=a.obj.cell 0 rfl;have c1:=a.obj.cell 1 rfl;have lh:=a.obj.lt;obtain ⟨o,c,D,a2,a0,ah⟩:=a.map;have hgk:∀ r,goneK H rev r↔H.kvs r≠none/\r<=rev/\r≠(atK H.gens rev).1.2.1:=fun r=>Iff.rfl
 have bb:o.size<=1099511627:=by
  obtain ⟨l,bd,aQ⟩:=hl
  have:=by
   classical
   exact zke (o.toList.map (·.key)) (l.map (Value.int .i64)) a2.2.2 fun x hx=>by
    obtain ⟨e,I,rfl⟩:=List.mem_map.1 hx;obtain ⟨n,h1,_,h2⟩:=a0 e I;exact List.mem_map.2 ⟨n,aQ n (fun h0=>by simp [h0] at h2),h1.symm⟩
  simp only [List.length_map,Array.length_toList] at this;omega
 generalize atK H.gens rev=sn at *;obtain ⟨⟨q1,q2,q3⟩,qb⟩:=sn;dsimp only at C hgk
 have ay:=H_ C;have O:=H_ hgk;have HB:=H_ D;have V:=H_ a2;have aF:=H_ a0;have aG:=H_ ah;clear C hgk a hF hK D a2 a0 ah hl;go_enter Tryz.func82,Tryz.ntmps82;go_upto_region 3 with (go_at_call 93;refine (ay.out _ (Fr.refl No w)).mono ?_;rintro e w1 ⟨rfl,Y⟩);have E:((w1.alloc (Obj.cells #[.int .i64 q1,.int .i64 q2,.int .i64 q3] 173))).heap[w1.heap.size]?=some (.cells #[.int .i64 q1,.int .i64 q2,.int .i64 q3] 173 (0,0)):=zae _ _ _ rfl;have i:Fr No w (w1.alloc (Obj.cells #[.int .i64 q1,.int .i64 q2,.int .i64 q3] 173)):=Y.alloc _;have b4:w.heap.size<=w1.heap.size:=Y.size;generalize w1.alloc (Obj.cells #[.int .i64 q1,.int .i64 q2,.int .i64 q3] 173)=W at E i ⊢
 have b8:=i.cell0 c1;have bj:h<W.heap.size:=Nat.lt_of_lt_of_le lh i.size;have a9:=i.heap HB.out id;have bf:=run_range_map (P:=Tryz.prog) W 152 3 70 m o c Tryz.underlying152 a9;have aA:=H_ E;have B:=H_ i;have bh:=zac E;clear E i a9 Y c0 c1;go_wp2
 go_loopg [5] o.size (fun gg s5 wr=>∃ (seen:Array Nat) (k0:Nat) (v:Value) (out:List Int),s5=v/\gg=(leftOf o seen).size/\c<=k0/\out.length+gg<=o.size/\Hid (wr.heap[W.heap.size]?=some (.mapIter (some m) c seen k0)) ∧
  Hid (SlF wr 3 1 int1 v out)/\Hid (∀ b,v.ownBlock=some b->W.heap.size<b)/\Hid (∀ r∈out,goneK H rev r)/\Hid (Fr No W wr)/\Hid (∀ x∈o.toList,seen.contains x.born=true->∀ n,x.key=.int .i64 n->goneK H rev n->n∈out))
 case atStart=>exact ⟨#[],c,_,[],rfl,by rw [zoz],Nat.le_refl _,by simp,H_ (heap_alloc_new _ _),H_ (SlF.nil _ _ _ _),H_ (by simp [Value.ownBlock]),H_ (by simp),H_ ((Fr.refl No W).alloc _),H_ (by simp)⟩
 case round =>
  obtain ⟨seen,k0,v,out,rfl,bc,aP,be,HI,HS,S,HG,HF,HC⟩:=hrel;have X:=HF.out.heap (B.out.heap HB.out id) id;have aR:=_root_.Go.run_next_at (P:=Tryz.prog) wr 0 W.heap.size m c k0 seen o c HI.out X V.out.1 aP;rcases aR with ⟨h0,K⟩ | ⟨e,I,M,j,K⟩
  · clear X
    go_wp2;go_ret
    exact ⟨_,out,rfl,HS.out,B.out.trans0 HF.out,fun b D=>by have:=S.out b D;have:=B.out.size;omega,fun r=>⟨HG.out r,fun hr=>by
     cases hkv:H.kvs r with
     | none=>exact absurd hkv hr.1
     | some y =>
       obtain ⟨e,I,f,_⟩:=aG.out r (kvV y) (by simp [hkv]);exact HC.out e I (zlz h0 e I) r f hr⟩⟩
  obtain ⟨f,aN⟩:=mem_left I
  obtain ⟨n,z,aS,L⟩:=aF.out e f;have ap:=left_shrinks o seen e I;have aq:=fun (out':List Int) (h1:∀ m∈out,m∈out') (h2:goneK H rev n->n∈out')=>zsc (P:=fun x=>∀ m,x.key=.int .i64 m->goneK H rev m->m∈out') V.out.2.1 f (fun x hx hc m hm hg=>h1 m (HC.out x hx hc m hm hg)) (fun m hm hg=>by rw [z] at hm;cases hm;exact h2 hg);have U:=H_ aq;clear aq;have ai:W.heap.size<wr.heap.size:=zac HI.out;have aj:W.heap.size<M.heap.size:=(by rcases j with rfl | rfl <;> exact ai);have s:=zmx HF.out j (.mapIter (some m) c (seen.push e.born) c);have Z:=zmy M W.heap.size (.mapIter (some m) c (seen.push e.born) c) aj
  have a1:∀ k,k≠W.heap.size->(ChangeMaps.setBlock M W.heap.size (.mapIter (some m) c (seen.push e.born) c)).heap[k]?=wr.heap[k]?:=fun k hk=>(zdh M _ k _ hk).trans (by rcases j with rfl | rfl <;> rfl);have A:(ChangeMaps.setBlock M W.heap.size (.mapIter (some m) c (seen.push e.born) c)).heap.size=wr.heap.size:=(by rcases j with rfl | rfl <;> simp [ChangeMaps.setBlock])
  have J:Fr (fun b=>b=W.heap.size) wr (ChangeMaps.setBlock M W.heap.size (.mapIter (some m) c (seen.push e.born) c)):=by
   rcases j with rfl | rfl
   · exact ⟨rfl,rfl,rfl,Nat.le_of_eq A.symm,fun k _ hk=>a1 k hk⟩
   exact ⟨rfl,rfl,rfl,Nat.le_of_eq A.symm,fun k _ hk=>a1 k hk⟩
  have a7:=s.heap (B.out.heap HB.out id) id;have aa:=run_entry_at (P:=Tryz.prog) _ W.heap.size m c seen o c e Z a7 f V.out.2.1
  have an:SlF (ChangeMaps.setBlock M W.heap.size (.mapIter (some m) c (seen.push e.born) c)) 3 1 int1 u5 out:=HS.out.fr J fun b D e'=>by
   have b9:b=W.heap.size:=e';have:=S.out b D;omega
  have q:=s.heap aA.out id;rw [z] at K aa;have al:H.kvs n≠none:=fun h0=>by simp [h0] at L
  generalize ChangeMaps.setBlock M W.heap.size (.mapIter (some m) c (seen.push e.born) c)=G at *;have y1:G.cell? ⟨w1.heap.size,1,none⟩=some (.int .i64 q2):=cellAt q 1 rfl;have ly:=zac q;have N:=H_ s;have R:=H_ Z;have T:=H_ an;have d:=H_ ap;have aH:=H_ al;have ba:W.heap.size<=G.heap.size:=s.size;obtain ⟨i0,aO,aT,aU,aV⟩:=info_parts info3;have b3:out.length<=1099511627:=(by omega);generalize af:(leftOf o (seen.push e.born)).size=gs at *;have Q:=H_ af;clear s Z an ap al q a7 a1 A J X I f aN z aS L j aj ai af;by_cases t1:n<=rev
  · by_cases t2:n=q2
    · subst t2
      go_wp2;go_roundg gs
      case rel=>exact ⟨seen.push e.born,c,u5,out,rfl,Q.out.symm,Nat.le_refl _,by have:=d.out;omega,R,T,S,HG,N,H_ (U.out out (fun _ h=>h) fun hg=>absurd rfl ((O.out _).1 hg).2.2)⟩
      case measure=>have:=d.out;omega
    have bn:(n != q2)=true:=by simpa using t2
    have ak:=zav G [.int .i64 n] 3 (0,0);go_wp2_with (at_builtin;go_loud (refine zao rfl _ _ 48 rfl 3 i0 _ 1 8 Tryz.underlying48 aO aT aU aV rfl (by decide) _ out rfl (T.out.alloc _) G.heap.size 1 n rfl ak rfl ?c1 ?c2 ?c3 ?_))
    case c1=>intro u hu;simp [int1] at hu;subst hu;rfl
    case c2=>unfold maxLen;omega
    case c3=>omega
    intro g7 o7 a4 w6 ao ad a8 b0;have ab:Fr (fun b=>u5.ownBlock=some b) (G.alloc (Obj.cells [.int .i64 n].toArray 3)) w6:=(Fr.refl _ _).grown ad fun k hk=>.inl hk;have t:Fr (fun b=>u5.ownBlock=some b) G w6:=((Fr.refl _ G).alloc _).trans ab fun _ _ h=>h;have ag:=t.heap R.out (fun h=>by have:=S.out _ h;omega);have a6:Fr No W w6:=N.out.trans t fun b D h=>by have:=S.out b h;omega
    have aE:=H_ ag;have aC:=H_ a6;have aJ:=H_ ao;have ae:goneK H rev n:=(O.out n).2 ⟨aH.out,t1,t2⟩;have aD:=H_ ae
    have am:∀ b,(Value.slice (some ⟨g7,o7,none⟩) (out.length+1) a4).ownBlock=some b->W.heap.size<b:=fun b D=>by
     obtain rfl:g7=b:=by simpa [Value.ownBlock] using D
     rcases a8 with h | h
     · exact S.out _ h
     have h':g7=G.heap.size+1:=by simpa using h
     omega
    have aI:=H_ am;clear ab t ag a6 ao ae am ad a8;go_wp2;go_roundg gs
    case rel=>exact ⟨seen.push e.born,c,_,out++[n],rfl,Q.out.symm,Nat.le_refl _,by have:=d.out;simp;omega,aE,H_ (by simpa using aJ.out),aI,H_ (fun r hr=>by
     rcases List.mem_append.1 hr with h | h
     · exact HG.out r h
     rw [List.mem_singleton.1 h];exact aD.out),aC,H_ (U.out (out++[n]) (fun m h=>List.mem_append_left _ h) fun _=>by simp)⟩
    case measure=>have:=d.out;omega
  have bm:¬ n<=rev:=t1
  go_wp2;go_roundg gs
  case rel=>exact ⟨seen.push e.born,c,u5,out,rfl,Q.out.symm,Nat.le_refl _,by have:=d.out;omega,R,T,S,HG,N,H_ (U.out out (fun _ h=>h) fun hg=>by have h1:=((O.out _).1 hg).2.1;omega)⟩
  case measure=>have:=d.out;omega
theorem zsw (a:ByteArray):klt a ⟨#[]⟩=false:=by
 rw [Bool.eq_false_iff];intro h;have:=zdz.1 h;exact absurd this (by simp)
theorem zpy (T:Pairs):rangeT T ⟨#[]⟩ ⟨#[]⟩=T:=by
 unfold rangeT;rw [List.filter_eq_self];intro q _;rw [zsw,show (⟨#[]⟩:ByteArray).toList.isEmpty=true from by rw [Lib.toList_data];rfl]
 rfl
structure TreeDl (TA:zai):Prop where
 del:∀ {w t T F} (key:ByteArray),TA w t T F->Calls Tryz.prog 81 #[.pointer (some ⟨t,0,none⟩),.string key] w fun e w'=>e=.returned (zcg (getT T key))/\∃ F',TA w' t (delT T key) F'/\Fr F w w'/\(∀ b,F' b->F b\/w.heap.size<=b)
structure CompGk (S:St) (rev:Int):Prop where
 r1:rev<=S.rev
 r2:S.mark<rev
 evs:0<S.events.length
 nodup:(S.T.map (·.2)).Nodup
 srt:Sorted S.T
 hist:∀ p∈S.T,∀ H,S.past p.2=some H->Fits (compK rev H.gens)/\∃ l:List Int,l.length<=1099511627/\∀ r,H.kvs r≠none->r∈l
def hist8 (rev:Int) (H:Hist):Hist:={ H with gens:=compK rev H.gens }
theorem zuz {rev:Int} {H:Hist} {out:List Int} (h:∀ r,r∈out↔goneK (hist8 rev H) rev r) (r:Int):(if r∈out then none else (H.kvs r).map kvV)=((compH rev H).kvs r).map kvV:=by
 have a:goneK (hist8 rev H) rev r↔H.kvs r≠none/\r<=rev/\r≠(atK (compK rev H.gens) rev).1.2.1:=Iff.rfl;unfold compH;dsimp only;by_cases hr:r∈out
 · have:=a.1 ((h r).1 hr)
   rw [if_pos hr,if_pos ⟨this.2.1,this.2.2⟩]
   rfl
 rw [if_neg hr]
 split
 · rename_i hc
   cases hk:H.kvs r with
   | none=>rfl
   | some y=>exact absurd ((h r).2 (a.2 ⟨by rw [hk];simp,hc⟩)) hr
 rfl
theorem zvi {out:List Int} {k:Nat} {c:Int} (hc:out[k]?=some c) (f:Int->Option Value):(fun m=>if m=c then none else (fun r=>if r∈out.take k then none else f r) m)=fun r=>if r∈out.take (k+1) then none else f r:=by
 funext m
 rw [List.take_add_one,hc];by_cases h:m=c
 · simp [h]
 simp [h]
set_option maxHeartbeats 16000000 in
theorem zjh {TA:zai} {N:Nat} (hT:TreeOk TA N) (hTD:TreeDl TA) {n:Nat} (hn:n<=1099511627) (w:World) (s:Nat) (S:St) (F:Nat->Prop) (hS:zal TA w s S F) (hok:StOk n S) (hN:S.T.length<=1099511627) (rev:Int) (hc:CompGk S rev) :
 Calls Tryz.prog 54 #[.pointer (some ⟨s,0,none⟩),.int .i64 rev] w fun e w'=>e=.returned (.int .i64 0)/\∃ F',zal TA w' s (compS rev S) F'/\Fr F w w'/\(∀ b,F' b->F b\/w.heap.size<=b):=by
 obtain ⟨t,p,ev,hp,FT,FH,a,hF⟩:=hS;have c0:=a.obj.cell 0 rfl;have c1:=a.obj.cell 1 rfl;have c3:=a.obj.cell 3 rfl;have c4:=a.obj.cell 4 rfl;have ls:=a.obj.lt;have r1:=hc.r1;have r2:=hc.r2;have eE:=hok.ev;have eF:∀ (fn:Fn) (first cap:Array Value) (w:World),(Instr.makeFunc fn first cap).run Tryz.prog w=.ok (.func fn first cap) w:=fun _ _ _ _=>rfl;have z:=H_ a;have Z:=H_ hF;have HC:=H_ hc;have aV:=H_ hok;clear a hF hc hok;go_enter Tryz.func54,Tryz.ntmps54;go_upto_region 3 with fail;have aw:=zae w (Obj.cells #[.int .i64 rev] 3) _ rfl;have ae:Fr No w (w.alloc (Obj.cells #[.int .i64 rev] 3)):=(Fr.refl No w).alloc _;generalize w.alloc (Obj.cells #[.int .i64 rev] 3)=W0 at aw ae ⊢
 have b0:W0.cell? ⟨w.heap.size,0,none⟩=some (.int .i64 rev):=cellAt aw 0 rfl;have d3:=ae.cell0 c3;have d4:=ae.cell0 c4;have lb:=zac aw;have cL:s<W0.heap.size:=Nat.lt_of_lt_of_le ls ae.size
 go_quiet (fail)
 have hq:=Fr.drewN No W0 nq;have b1:=hq.cell0 b0;have e4:=hq.cell0 d4;have b4:w.heap.size<(W0.drewN nq).heap.size:=lb;have b5:s<(W0.drewN nq).heap.size:=cL;have ct:Fr No w (W0.drewN nq):=ae.trans0 hq;have bh:=hq.heap aw id;generalize W0.drewN nq=O at *;clear b0 d3 d4 lb cL hq ae aw;go_upto_region 5 with fail
 go_quiet (fail)
 have hq:=Fr.drewN No O nq;have aB:Fr No w (O.drewN nq):=ct.trans0 hq;have Q:=hq.heap bh id;generalize O.drewN nq=W2 at aB Q hq ⊢
 have a2:Has W2 s [.pointer (some ⟨t,0,none⟩),.map (some p),.int .i64 S.next,.int .i64 S.rev,.int .i64 S.mark,ev]:=z.out.obj.fr aB id;have e9:=aB.size;have f4:=a2.free 4;have d4:=a2.cell 4 rfl;have aP:=a2.lt;have b2:W2.cell? ⟨w.heap.size,0,none⟩=some (.int .i64 rev):=cellAt Q 0 rfl;have aO:=zac Q;clear b1 e4 b4 b5 ct bh hq;go_upto_region 8 with fail;have M:=a2.set 4 (.int .i64 rev);have aG:Fr (fun b=>b=s) W2 (W2.setCell ⟨s,4,none⟩ (.int .i64 rev)):=(Fr.refl _ W2).setAt 4 _;have ax:=aG.heap Q (fun e=>by have B:w.heap.size=s:=e;omega);have aC:Fr (fun b=>b=s) w (W2.setCell ⟨s,4,none⟩ (.int .i64 rev)):=(aB.mono fun _ _ h=>h.elim).trans aG fun _ _ h=>h;generalize W2.setCell ⟨s,4,none⟩ (.int .i64 rev)=W3 at M ax aC ⊢
 have az:SlF W3 72 13 evC ev S.events:=z.out.events.fr aC fun b hb e=>z.out.ds.2.1 (by have B:b=s:=e;rw [<-B];exact hb);have c5:=M.cell 5 rfl;have f5:=M.free 5;have dL:=M.lt;have ed:=aC.size;obtain ⟨ea,cd,rfl,eB,eC,eD⟩:=az.shape;have b6:=H_ az;have aU:=H_ M;have am:=H_ ax;have bV:=H_ aC;clear f4 d4 aP b2 aO a2 aG Q aB az M ax aC
 go_upto_region 9 with (first
  | (go_at_call 72;refine (zgi W3 _ S.events b6.out HC.out.evs (by omega)).mono ?_;rintro e w4 ⟨cg,co,dZ,rfl,cm,bz,eA⟩)
  | (go_at_call 71
     have cl:=bz.heap am.out id;have e8:=zac am.out;refine (znw w4 _ S.events w.heap.size rev (by simp [World.cell?,cl]) cm (fun e=>by simp [Value.ownBlock] at e;omega) (by omega)).mono ?_;rintro e w5 ⟨dv,rfl,a1,cu,ay⟩;obtain ⟨da,l,rfl,_,_,_⟩:=a1.shape;have aR:=H_ a1;have ao:Hid (∀ b,(Value.slice da (S.events.filter (keptB rev)).length l).ownBlock=some b->W3.heap.size<=b):=H_ (fun b hb=>by have:=ay b hb;simp [Value.ownBlock] at this;omega);have D:Fr No W3 w5:=bz.trans cu fun b hb h=>by simp [Value.ownBlock] at h;omega
     have dz:=D.free0 c5 f5;have dw:=D.cell0 c5;have dM:s<w5.heap.size:=Nat.lt_of_lt_of_le dL D.size))
 have aY:Has (w5.setCell ⟨s,5,none⟩ (.slice da (S.events.filter (keptB rev)).length l)) s [.pointer (some ⟨t,0,none⟩),.map (some p),.int .i64 S.next,.int .i64 S.rev,.int .i64 rev,.slice da (S.events.filter (keptB rev)).length l]:=(aU.out.fr D id).set 5 _;have a8:Fr (fun b=>b=s) w5 (w5.setCell ⟨s,5,none⟩ (.slice da (S.events.filter (keptB rev)).length l)):=(Fr.refl _ w5).setAt 5 _;have aD:Fr (fun b=>b=s) w (w5.setCell ⟨s,5,none⟩ (.slice da (S.events.filter (keptB rev)).length l)):=(bV.out.trans0 D).trans a8 fun _ _ h=>h;have bi:=a8.heap (D.heap am.out id) (fun e=>by have B:w.heap.size=s:=e;omega)
 have bn:SlF (w5.setCell ⟨s,5,none⟩ (.slice da (S.events.filter (keptB rev)).length l)) 72 13 evC (.slice da (S.events.filter (keptB rev)).length l) (S.events.filter (keptB rev)):=aR.out.fr a8 fun b hb e=>by have B:b=s:=e;have:=ao.out b hb;omega
 have bc:=H_ bn;clear bn;generalize w5.setCell ⟨s,5,none⟩ (.slice da (S.events.filter (keptB rev)).length l)=W6 at *;have a4:TA W6 t S.T FT:=hT.fr z.out.tree aD fun b hb e=>z.out.ds.1 (by have B:b=s:=e;rw [<-B];exact hb)
 have bl:MapAt W6 p fun i=>(hp i).map fun h=>.pointer (some ⟨h,0,none⟩):=z.out.map.fr aD fun e=>by
  have B:p=s:=e;exact z.out.map.apart z.out.obj B
 have L:∀ i H,S.past i=some H->∃ h,hp i=some h/\HistAt W6 h H (FH i):=fun i H hi=>by
  obtain ⟨h,h1,h2⟩:=z.out.hist i H hi;exact ⟨h,h1,h2.fr aD fun b hb e=>z.out.ds.2.2 i (by have B:b=s:=e;rw [<-B];exact hb)⟩
 have cc:=aY.cell 0 rfl;have eQ:=aY.lt;have aM:=fun W (h:Fr No W6 W)=>hT.range (w:=W) (t:=t) (T:=S.T) (F:=FT) ⟨#[]⟩ ⟨#[]⟩ (hT.fr a4 h fun _ _ s=>s);simp only [zpy] at aM;have X:=fun W (h:Fr No W6 W)=>hT.len (w:=W) (t:=t) (T:=S.T) (F:=FT) (hT.fr a4 h fun _ _ s=>s);have bb:=H_ aM;have ba:=H_ X;have c8:=H_ aY;have bq:=H_ aD;have bT:=H_ bi;have c7:=H_ bl;have bY:=H_ L;clear aM X aY aD bi bl L a4 a8 D dz dw dM cm bz a1 cu ay
 go_region_held3 (fun W=>W.cell? ⟨s,0,none⟩=some (.pointer (some ⟨t,0,none⟩)))
  (first | assumption | exact aX.cell0 cc)
  (first
    | (go_at_call 59;refine (ba.out _ (by (repeat (first | with_reducible exact Fr.refl _ _ | with_reducible refine Fr.drew ?_));done)).mono ?_;rintro e w' ⟨rfl,rfl⟩)
    | (go_at_call 58;refine (bb.out _ (by (repeat (first | with_reducible exact Fr.refl _ _ | with_reducible refine Fr.drew ?_));done)).mono ?_;rintro e w7 ⟨pv,rfl,bF,aX,cD⟩;obtain ⟨pa,cQ,rfl,ai,eG,cB⟩:=bF.shape))
 have aE:Fr F w W6:=bq.out.mono fun b _ e=>by
  have B:b=s:=e;rw [B];exact (Z.out s).2 (.inl rfl)
 have R:Fr No W6 w7:=(by first | exact aX | exact (Fr.refl No W6).drew.trans0 aX);have av:∀ b,F b->b<w.heap.size:=fun b hb=>z.out.lt hT b ((Z.out b).1 hb);have eL:w.heap.size<=W6.heap.size:=aE.size;have bm:∀ b,(Value.slice pa S.T.length cQ).ownBlock=some b->W6.heap.size<=b:=fun b hb=>by have:=cD b hb;have h':W6.heap.size<=b:=this;omega
 -- the store behind the events were cut
 have I:=ao.out;have cr:∀ b,(Value.slice ea S.events.length cd).ownBlock=some b->b<w.heap.size:=z.out.events.lt
 have bG:StoreR TA W6 s t p (.slice da (S.events.filter (keptB rev)).length l) hp FT FH (compTo rev S 0):=by
  rw [zny]
  exact {
   obj:=c8.out
   tree:=hT.fr z.out.tree bq.out fun b hb e=>z.out.ds.1 (by have B:b=s:=e;rw [<-B];exact hb)
   map:=c7.out
   events:=bc.out
   hist:=bY.out
   gone:=z.out.gone
   ds:=⟨z.out.ds.1,fun h=>by have:=I s h;omega,z.out.ds.2.2⟩
   dp:=⟨z.out.dp.1,fun h=>by have:=I p h;have:=z.out.map.lt;omega,z.out.dp.2.2⟩
   dt:=fun b hb=>⟨fun h=>by have:=I b h;have:=hT.lt z.out.tree b hb;omega,(z.out.dt b hb).2⟩
   de:=fun b hb i h=>by have:=I b hb;have:=av b ((Z.out b).2 (.inr (.inr (.inr (.inr ⟨i,h⟩)))));omega
   dh:=z.out.dh }
 have cE:=bG.fr hT R fun _ _ h=>h
 have hG:∀ b,storeF s p (.slice da (S.events.filter (keptB rev)).length l) FT FH b->(F b\/W3.heap.size<=b)/\b<W6.heap.size:=fun b hb=>by
  refine ⟨?_,bG.lt hT b hb⟩;rcases hb with h | h | h | h | h
  · exact .inl ((Z.out b).2 (.inl h))
  · exact .inl ((Z.out b).2 (.inr (.inl h)))
  · exact .inl ((Z.out b).2 (.inr (.inr (.inl h))))
  · exact .inr (I b h)
  exact .inl ((Z.out b).2 (.inr (.inr (.inr (.inr h)))))
 have ck:=R.heap bT.out id;have aI:Fr F w w7:=aE.trans0 R;have bs:=H_ aI;have dl:=H_ cE;have aT:=H_ hG;have bU:=H_ ck;have dk:=H_ bF;have dj:=H_ bm;have d6:=H_ av;have di:=H_ cB;have ec:W6.heap.size<=w7.heap.size:=R.size
 have dg:Hid (s<w.heap.size/\∀ i H,S.past i=some H->(Lit.int .i64 i).wf=true):=H_ ⟨ls,fun i H hi=>by
  have:=aV.out.ids i H hi;have:=aV.out.next;exact wf64 (by omega) (by omega)⟩
 have eK:w.heap.size<W3.heap.size:=zac am.out;clear aE R av bm bF cB aI bG cE hG ck cD aX cc I cr bb ba c8 bq bT c7 bY b6 aU am bV bc aR ao;generalize cs:(Value.slice da (S.events.filter (keptB rev)).length l)=C at *;clear cs;go_wp2
 go_loopg [52] S.T.length (fun gg s52 wr=>∃ (i:Nat) (ai:Int->Option Nat) (v:Nat->Prop) (u:Int->Nat->Prop),s52=.int .i64 i/\i+gg=S.T.length/\Hid (StoreR TA wr s t p C ai v u (compTo rev S i)) ∧
  Hid (∀ b,storeF s p C v u b->storeF s p C FT FH b\/w7.heap.size<=b)/\Hid (Fr (storeF s p C FT FH) w7 wr))
 case atStart=>exact ⟨0,hp,FT,FH,rfl,by simp,dl,H_ (fun b h=>.inl h),H_ (Fr.refl _ _)⟩
 case round =>
  obtain ⟨i,ai,v,u,rfl,hi,HR,A,ad⟩:=hrel
  have J:∀ {W:World},Fr (storeF s p C FT FH) w7 W->Fr F w W:=fun {W} h=>bs.out.trans h fun b hb hx=>by
   rcases (aT.out b hx).1 with h | h
   · exact h
   omega
  have bX:Hid (∀ {W:World},Fr (storeF s p C FT FH) w7 W->Fr F w W):=H_ J;clear J
  cases gk with
  | zero =>
    have dD:¬ (i:Int)<(S.T.length:Int):=(by omega);have dC:i=S.T.length:=(by omega);subst dC;go_wp2;go_ret;refine ⟨rfl,storeF s p C v u,⟨t,p,C,ai,v,u,HR.out,fun b=>Iff.rfl⟩,bX.out ad.out,fun b hb=>?_⟩;rcases A.out b hb with h | h
    · rcases (aT.out b h).1 with h | h
      · exact .inl h
      exact .inr (by omega)
    exact .inr (by omega)
  | succ gg =>
    have dD:(i:Int)<(S.T.length:Int):=(by omega);obtain ⟨gb,go,rfl⟩:=di.out (by omega);obtain ⟨⟨key,id⟩,hx⟩:∃ q,S.T[i]?=some q:=⟨_,List.getElem?_eq_getElem (by omega)⟩;have aN:=dk.out.fr ad.out (fun b hb h=>by have:=dj.out b hb;have:=(aT.out b h).2;omega);have x0:=aN.cell0 zad i hx rfl;have x1:=aN.cell zad i 1 hx rfl;obtain ⟨H,hH⟩:=aV.out.id _ (List.mem_of_getElem? hx);dsimp only at hH;obtain ⟨cw,cx⟩:=HC.out.hist _ (List.mem_of_getElem? hx) H hH;have ci:(compTo rev S i).past id=some H:=(znz HC.out.nodup hx).trans hH;obtain ⟨h,bE,L⟩:=HR.out.hist id H ci;have bH:(Lit.int .i64 id).wf=true:=dg.out.2 id H hH;have be:=(aV.out.hist _ _ hH).1;obtain ⟨g,m,FK,b,cf⟩:=L
    have cC:((ai id).map fun h=>Value.pointer (some ⟨h,0,none⟩)).getD (.pointer none)=.pointer (some ⟨h,0,none⟩):=(by rw [bE];rfl);have c1:=HR.out.obj.cell 1 rfl;have h0:=b.obj.cell 0 rfl
    have bL:¬ storeF s p C FT FH w.heap.size:=fun hb=>by
     rcases (aT.out _ hb).1 with h | h
     · have:=d6.out _ h;omega
     omega
    have cO:¬ storeF s p C v u w.heap.size:=fun hb=>by
     have h7:=zac bU.out;rcases A.out _ hb with h | h
     · exact bL h
     omega
    have a7:=ad.out.heap bU.out bL;have bg:=cellAt a7 0 rfl;have cM:=HR.out.obj.lt;have cK:=b.obj.lt;have cI:=zac a7
    have cj:∀ W,Fr No wr W->W.cell? ⟨s,1,none⟩=some (.map (some p))/\(Instr.lookup 109 (.map (some p)) (.int .i64 id) false).run Tryz.prog W=.ok (.pointer (some ⟨h,0,none⟩)) W/\W.cell? ⟨h,0,none⟩=some (.pointer (some ⟨g,0,none⟩))/\W.cell? ⟨w.heap.size,0,none⟩=some (.int .i64 rev):=by
     intro W hW;refine ⟨hW.cell0 c1,?_,hW.cell0 h0,hW.cell0 bg⟩;have:=MapAt.look (P:=Tryz.prog) (t:=109) (HR.out.map.fr hW fun h=>h) Tryz.underlying109 Tryz.underlying3 bH (zero142 _);rw [cC] at this;exact this
    have cn:=fun W (hW:Fr No wr W)=>zgb W g H.gens H.last rev FK (b.key.fr hW fun _ _ h=>h) (be.fits hn);have ch:∀ b,u id b->storeF s p C v u b:=fun b hb=>.inr (.inr (.inr (.inr ⟨_,hb⟩)));have aS:=H_ ch;have bt:=H_ cj;have an:=H_ cn;have d8:=H_ cw;have d9:=H_ cx;have o:=H_ b;have ab:=H_ cf;have HX:=H_ hx;have bZ:=H_ hH;have c9:=H_ bE;have ca:=H_ bH;have el:=H_ a7;clear cC cj cn b cf hx cw cx be hH ci bg h0 c1 aN bE bH ch a7 bL;go_upto_region 12 with fail;have ah:=zae wr (Obj.cells #[.string key,.int .i64 id] 125) _ rfl;have V:Fr No wr (wr.alloc (Obj.cells #[.string key,.int .i64 id] 125)):=(Fr.refl No wr).alloc _;generalize wr.alloc (Obj.cells #[.string key,.int .i64 id] 125)=O at ah V ⊢
    have k1:=cellAt ah 1 rfl;have lk:=zac ah;have b5:s<O.heap.size:=Nat.lt_of_lt_of_le cM V.size;have cJ:h<O.heap.size:=Nat.lt_of_lt_of_le cK V.size;have b4:w.heap.size<O.heap.size:=Nat.lt_of_lt_of_le cI V.size;obtain ⟨q1,q2,q3,q4⟩:=bt.out O V;have cR:(Instr.lookup 109 (.map (some p)) (.int .i64 id) false).run Tryz.prog O.drew=.ok (.pointer (some ⟨h,0,none⟩)) O.drew:=(bt.out O.drew V.drew).2.1
    go_region_held3 (fun W=>W.cell? ⟨s,1,none⟩=some (.map (some p))/\W.cell? ⟨wr.heap.size,1,none⟩=some (.int .i64 id)/\(Instr.lookup 109 (.map (some p)) (.int .i64 id) false).run Tryz.prog W=.ok (.pointer (some ⟨h,0,none⟩)) W)
     (first | exact ⟨q1,k1,q2⟩ | exact ⟨q1,k1,cR⟩)
     (fail)
    have af:Fr No wr O.drew:=V.drew;have aJ:O.drew.heap[wr.heap.size]?=some (.cells #[.string key,.int .i64 id] 125 (0,0)):=ah;have aP:s<O.drew.heap.size:=b5;have bI:h<O.drew.heap.size:=cJ;have aO:w.heap.size<O.drew.heap.size:=b4;have bJ:wr.heap.size<O.drew.heap.size:=lk;generalize O.drew=W2 at af aJ aP bI aO bJ ⊢
    have y0:=o.out.obj.fr af (fun h=>h) |>.cell 0 rfl;have y1:=(bt.out W2 af).2.2.2;have dc:=H_ aJ;clear q1 q2 q3 q4 cR k1 ah V lk b5 cJ b4 aJ;go_upto_region 13 with fail;have bK:¬ FK w.heap.size:=fun hb=>cO (aS.out _ ((ab.out _).2 (.inr (.inr hb))));have nh:¬ FK h:=o.out.d1;have bk:=af.drew;have bW:=H_ af;have a5:=H_ bk;clear af bk;by_cases hck:compK rev H.gens = []
    · rw [hck] at an
      simp only [List.length_nil,Nat.lt_irrefl,decide_false] at an
      go_region_held3 (fun W=>W.cell? ⟨h,0,none⟩=some (.pointer (some ⟨g,0,none⟩))/\W.cell? ⟨w.heap.size,0,none⟩=some (.int .i64 rev))
       (first | exact ⟨y0,y1⟩ | exact ⟨E.cell y0 nh,E.cell y1 bK⟩)
       (first | (go_at_call 80;refine (an.out _ (by first | with_reducible exact bW.out | with_reducible exact a5.out)).mono ?_;rintro e Y ⟨rfl,E,y,ag,d⟩))
      have f:Fr FK wr Y:=(a5.out.mono fun _ _ h=>h.elim).trans E fun _ _ h=>h;have aH:HistAt Y h (hist8 rev H) (fun b=>b=h\/b=m\/y b):=⟨g,m,y,⟨o.out.obj.fr f o.out.d1,by unfold hist8;rw [hck];exact ag,o.out.map.fr f o.out.d2,fun h'=>o.out.d1 (d _ h'),fun h'=>o.out.d2 (d _ h')⟩,fun b=>Iff.rfl⟩;have aF:Fr (u id) wr Y:=f.mono fun b _ h=>(ab.out b).2 (.inr (.inr h));have aZ:=HR.out.setHist hT c9.out aF aH (fun b hb=>.inl ((ab.out b).2 (hb.imp (fun h=>h) (Or.imp (fun h=>h) (d b)))));have z0:=aZ.obj.cell 0 rfl;have a9:=E.heap (show W2.drew.heap[wr.heap.size]?=_ from dc.out) (fun hb=>by have:=o.out.key.lt _ hb;omega);have z1:=cellAt a9 0 rfl;have eO:=zac a9;have dN:s<Y.heap.size:=Nat.lt_of_lt_of_le cM f.size
      have cq:=fun W (hW:Fr No Y W)=>hTD.del (w:=W) (t:=t) (T:=(compTo rev S i).T) (F:=v) key (hT.fr aZ.tree hW fun _ _ h=>h);have cZ:=H_ cq;have dm:=H_ aZ;have b9:=H_ aF;have c2:=H_ a9;have dO:¬ v s:=HR.out.ds.1;have cN:¬ v wr.heap.size:=fun hb=>by have:=hT.lt HR.out.tree _ hb;omega
      clear f aH ag E cq aZ aF a9 y0 y1 aP bI aO bJ d;go_upto_region 14 with fail
      go_region_held3 (fun W=>W.cell? ⟨s,0,none⟩=some (.pointer (some ⟨t,0,none⟩))/\W.cell? ⟨wr.heap.size,0,none⟩=some (.string key))
       (first | exact ⟨z0,z1⟩ | exact ⟨K.cell z0 dO,K.cell z1 cN⟩)
       (first | (go_at_call 81;refine (cZ.out _ (by (repeat (first | with_reducible exact Fr.refl _ _ | with_reducible refine Fr.drew ?_));done)).mono ?_;rintro e w9 ⟨rfl,cX,cH,K,bD⟩))
      have U:Fr v Y w9:=(by first | exact K | exact ((Fr.refl No Y).drew.mono fun _ _ h=>h.elim).trans K fun _ _ h=>h);have aL:=dm.out.setTree hT U cH bD;have u1:=aL.obj.cell 1 rfl;have aK:=U.heap c2.out cN;have u2:=cellAt aK 1 rfl;have eP:=zac aK;have eR:s<w9.heap.size:=Nat.lt_of_lt_of_le dN U.size;obtain ⟨dQ,cG,r1,r2,r3⟩:=aL.map.drop (P:=Tryz.prog) Tryz.underlying109 Tryz.underlying3 ca.out 0;obtain ⟨eX,dH,r4,r5,r6⟩:=(aL.map.fr (Fr.refl No w9).drew fun h=>h).drop (P:=Tryz.prog) Tryz.underlying109 Tryz.underlying3 ca.out 0;have dn:=H_ aL;have R1:=H_ r1;have R2:=H_ r2;have R4:=H_ r4;have R5:=H_ r5;have b8:=H_ U;have df:=H_ bD;clear aL U aK cH K bD z0 z1 r1 r2 r4 r5;go_upto_region 15 with fail
      go_region
      have bp:=H_ hck;clear hck;go_wp2;go_roundg gg
      case rel =>
       have hq:Fr No w9 w9.drew:=(Fr.refl No w9).drew;have dG:=(dn.out.fr hT hq fun _ _ h=>h).dropHist hT id R5.out R4.out
       have he:compTo rev S (i+1) = { { { compTo rev S i with past:=fun i_1=>if i_1=id then some (hist8 rev H) else (compTo rev S i).past i_1 } with T:=delT (compTo rev S i).T key } with past:=fun i_1=>if i_1=id then none else if i_1=id then some (hist8 rev H) else (compTo rev S i).past i_1 }:=by
        rw [zob HC.out.srt HX.out bZ.out bp.out];dsimp only
        congr 1
        funext j
        by_cases hj:j=id <;> simp [hj]
       have eH:=ad.out.size;have eI:=b9.out.size;have eJ:=b8.out.size;refine ⟨i+1,_,cX,_,by go_num,by omega,H_ (by rw [he];exact dG),H_ fun b hb=>?_,H_ ((((ad.out.trans b9.out fun b hb h=>?_).trans b8.out fun b hb h=>?_).trans0 hq).trans R5.out fun b hb h=>?_)⟩
       · rcases hb with h | h | h | h | ⟨j,hj,h⟩
         · exact A.out b (.inl h)
         · exact A.out b (.inr (.inl h))
         · rcases df.out b h with h | h
           · exact A.out b (.inr (.inr (.inl h)))
           exact .inr (by have h':Y.heap.size<=b:=h;omega)
         · exact A.out b (.inr (.inr (.inr (.inl h))))
         rw [if_neg hj] at h
         exact A.out b (aS.out b |> fun _=>.inr (.inr (.inr (.inr ⟨j,h⟩))))
       · rcases A.out b (aS.out b h) with h | h
         · exact h
         omega
       · rcases A.out b (.inr (.inr (.inl h))) with h | h
         · exact h
         omega
       have h':b=p:=h
       exact .inr (.inl h')
      case measure=>omega
    have X:0<(compK rev H.gens).length:=List.length_pos_iff.2 hck
    rw [decide_eq_true X] at an
    go_region_held3 (fun W=>W.cell? ⟨h,0,none⟩=some (.pointer (some ⟨g,0,none⟩))/\W.cell? ⟨w.heap.size,0,none⟩=some (.int .i64 rev))
     (first | exact ⟨y0,y1⟩ | exact ⟨E.cell y0 nh,E.cell y1 bK⟩)
     (first | (go_at_call 80;refine (an.out _ (by first | with_reducible exact bW.out | with_reducible exact a5.out)).mono ?_;rintro e Y ⟨rfl,E,y,ag,d⟩))
    have f:Fr FK wr Y:=(a5.out.mono fun _ _ h=>h.elim).trans E fun _ _ h=>h;have aH:HistAt Y h (hist8 rev H) (fun b=>b=h\/b=m\/y b):=⟨g,m,y,⟨o.out.obj.fr f o.out.d1,ag,o.out.map.fr f o.out.d2,fun h'=>o.out.d1 (d _ h'),fun h'=>o.out.d2 (d _ h')⟩,fun b=>Iff.rfl⟩;have cv:=zki Y h (hist8 rev H) rev (fun b=>b=h\/b=m\/y b) aH d8.out d9.out;have d7:=H_ cv;have db:=H_ ag;have aq:=H_ d;have b7:=H_ f;have eN:h<Y.heap.size:=Nat.lt_of_lt_of_le cK f.size;have eM:w.heap.size<Y.heap.size:=Nat.lt_of_lt_of_le cI f.size;have eZ:=E.cell (show W2.drew.cell? ⟨w.heap.size,0,none⟩=some (.int .i64 rev) from y1) bK;clear f aH ag E cv d y0 y1 aP bI aO bJ X
    go_wp2_with (go_at_call 82;refine d7.out.mono ?_;rintro e w9 ⟨dv,G,rfl,a1,K,ay,bx⟩;obtain ⟨oa,cP,rfl,dF,a2,M⟩:=a1.shape);have aA:Fr FK wr w9:=b7.out.trans0 K;have bC:MapAt w9 m fun r=>(H.kvs r).map kvV:=o.out.map.fr aA o.out.d2
    have bo:∀ c∈G,(Lit.int .i64 c).wf=true:=fun c hc=>by
     have h1:H.kvs c≠none:=((bx c).1 hc).1;obtain ⟨es,dx,e1,e2,e3,e4⟩:=bC
     cases hkv:H.kvs c with
     | none=>exact absurd hkv h1
     | some x =>
       obtain ⟨en,he,hk,_⟩:=e4 c (kvV x) (by simp [hkv]);obtain ⟨n',cA,dI,_⟩:=e3 en he;rw [hk] at cA;cases cA
       exact dI
    have ap:=H_ aA;have d5:=H_ K;have dd:Hid (MapAt w9 m fun r=>if r∈G.take 0 then none else (H.kvs r).map kvV):=H_ (by simpa using bC);have aR:=H_ a1;have d0:Hid (∀ b,(Value.slice oa G.length cP).ownBlock=some b->Y.heap.size<=b):=H_ ay;have cY:=H_ bx;have cb:=H_ bo;have aU:=H_ M;have bp:=H_ hck;clear aA bC a1 ay bo M bx K hck;obtain ⟨wo,dJ⟩:∃ wo,wo=wr:=⟨_,rfl⟩;subst dJ
    go_loopg [87] G.length (fun g2 s87 wr2=>∃ k:Nat,s87=.int .i64 k/\k+g2=G.length/\Hid (Fr (fun b=>b=m) w9 wr2)/\Hid (MapAt wr2 m fun r=>if r∈G.take k then none else (H.kvs r).map kvV))
    case atStart=>exact ⟨0,rfl,by simp,H_ (Fr.refl _ w9),dd⟩
    case round =>
     obtain ⟨k,rfl,hk,aa,c6⟩:=hrel;have dA:u id m:=(ab.out m).2 (.inr (.inl rfl))
     cases gk with
     | zero =>
       have dE:¬ (k:Int)<(G.length:Int):=(by omega)
       have cz:MapAt wr m fun r=>((compH rev H).kvs r).map kvV:=by
        have h1:=c6.out;rw [List.take_of_length_le (by omega)] at h1;have h2:(fun r=>if r∈G then none else (H.kvs r).map kvV)=fun r=>((compH rev H).kvs r).map kvV:=funext fun r=>zuz cY.out r;rw [h2] at h1;exact h1
       have J:Fr (u id) wo wr:=(ap.out.mono fun b _ h=>(ab.out b).2 (.inr (.inr h))).trans aa.out fun b _ e=>by
        have B:b=m:=e;rw [B];exact dA
       have cp:¬ y h:=fun h'=>o.out.d1 (aq.out _ h');have bw:¬ y m:=fun h'=>o.out.d2 (aq.out _ h');have cy:HistAt wr h (compH rev H) (fun b=>b=h\/b=m\/y b):=⟨g,m,y,⟨(o.out.obj.fr ap.out o.out.d1).fr aa.out fun e=>o.out.map.apart o.out.obj (by have B:h=m:=e;exact B.symm),(db.out.fr d5.out fun _ _ h=>h).fr aa.out fun b hb e=>bw (by have B:b=m:=e;rw [<-B];exact hb),cz,cp,bw⟩,fun b=>Iff.rfl⟩;have a3:∀ b,(b=h\/b=m\/y b)->u id b:=fun b hb=>(ab.out b).2 (hb.imp (fun h=>h) (Or.imp (fun h=>h) (aq.out b)));have cF:=HR.out.setHist hT c9.out J cy fun b hb=>.inl (a3 b hb);have dq:=H_ cF;have br:=H_ J;have dr:=H_ a3;clear cF J a3 cy cz cp bw;go_wp2;go_roundg gg
       case rel =>
        refine ⟨i+1,ai,v,_,by go_num,by omega,H_ (by rw [zoa HX.out bZ.out bp.out];exact dq.out),H_ fun b hb=>?_,H_ (ad.out.trans br.out fun b hb h=>?_)⟩
        · refine A.out b ?_
          rcases hb with h | h | h | h | ⟨j,h⟩
          · exact .inl h
          · exact .inr (.inl h)
          · exact .inr (.inr (.inl h))
          · exact .inr (.inr (.inr (.inl h)))
          refine .inr (.inr (.inr (.inr ⟨j,?_⟩)))
          by_cases hj:j=id
          · rw [if_pos hj] at h;rw [hj];exact dr.out b h
          rw [if_neg hj] at h;exact h
        rcases A.out b (aS.out b h) with h | h
        · exact h
        omega
       case measure=>omega
     | succ g2 =>
       obtain ⟨ob,oo,rfl⟩:=aU.out (by omega);obtain ⟨c,hc⟩:∃ c,G[k]?=some c:=⟨_,List.getElem?_eq_getElem (by omega)⟩;have dE:(k:Int)<(G.length:Int):=(by omega)
       have ah:(k:Int)+1<=9223372036854775807:=by
        have h1:=dF;have h2:=a2;unfold maxLen at h2;omega
       have eb:m<Y.heap.size:=Nat.lt_of_lt_of_le o.out.map.lt b7.out.size
       have bj:=aR.out.fr aa.out fun b hb e=>by
        have B:b=m:=e;have:=d0.out b hb;omega
       have z0:=bj.cell1 zbj k hc rfl;have zh:wr.cell? ⟨h,1,none⟩=some (.map (some m)):=((o.out.obj.fr ap.out o.out.d1).fr aa.out fun e=>o.out.map.apart o.out.obj (by have B:h=m:=e;exact B.symm)).cell 1 rfl;have ee:h<wr.heap.size:=(by have:=World.block_lt_of_cell? _ _ zh;exact this);obtain ⟨dQ,cG,r1,r2,r3⟩:=c6.out.drop (P:=Tryz.prog) Tryz.underlying152 Tryz.underlying3 (cb.out c (List.mem_of_getElem? hc)) 0;rw [zvi hc] at r1;have R1:=H_ r1;have R2:=H_ r2;clear r1 r2 bj hc;go_wp2;go_roundg g2
       case rel=>exact ⟨k+1,by go_num,by omega,H_ (aa.out.trans R2.out fun _ _ h=>h),R1⟩
       case measure=>omega
def rangeE (S:St) (g:Rg):Int:=if askE g≠0 then askE g else whenE S g.rev
set_option maxHeartbeats 4000000 in
theorem ztt {TA:zai} {N:Nat} (hT:TreeOk TA N) (w:World) (s:Nat) (S:St) (F:Nat->Prop) (hS:zal TA w s S F) (g:Rg) (hks:g.key.size<=1099511627776) (hE:rangeE S g≠0) :
 Calls Tryz.prog 53 #[.pointer (some ⟨s,0,none⟩),rgV g] w fun e w'=>e=.returned (.tuple #[.slice none 0 0,.int .i64 0,.bool false,.int .i64 (rangeE S g)])/\Fr No w w':=by
 have k:=fun W=>zdp W g hks;have l:=fun W (h:Fr No w W)=>zde W s S F (hS.fr0 hT h) g.rev;unfold rangeE at *;obtain ⟨n,o,f,q,r,t,u⟩:=g;unfold rgV at *;dsimp only at *;generalize askE _=a at *;generalize whenE S f=b at *;have j:=H_ k;have m:=H_ l;clear k l hks hS;by_cases h1:a=0
 · subst h1
   have i:b≠0:=(by simpa using hE);have x:(b==0)=false:=(by simpa using i);rw [if_neg (by simp)];clear hE;go_enter Tryz.func53,Tryz.ntmps53
   go_wp2_with (first
    | (go_at_call 41;refine (j.out _).mono ?_;rintro e w1 ⟨rfl,d⟩
       have c:Fr No w w1:=((Fr.refl No w).alloc _).trans0 d;have y:w1.heap[w.heap.size]?=some (.cells #[.string n,.string o,.int .i64 f,.int .i64 q,.bool r,.bool t,.bool u] 24 (0,0)):=d.heap (zae _ _ _ rfl) id;have A:w1.cell? ⟨w.heap.size,2,none⟩=some (.int .i64 f):=cellAt y 2 rfl)
    | (go_at_call 77;refine (m.out _ c).mono ?_;rintro e z ⟨rfl,rfl⟩))
   (try simp only [Exit.inBlock,Exit.then]);refine bodyPost_ret (zer rfl _ _ _) rfl ?_
   exact ⟨rfl,c⟩
 have v:(a==0)=false:=by simpa using h1
 rw [if_pos h1];go_enter Tryz.func53,Tryz.ntmps53;go_wp2_with (go_at_call 41;refine (j.out _).mono ?_;rintro e w1 ⟨rfl,d⟩)
 (try simp only [Exit.inBlock,Exit.then]);refine bodyPost_ret (zer rfl _ _ _) rfl ?_
 exact ⟨rfl,((Fr.refl No w).alloc _).trans0 d⟩
end Go.Proofs.YtdgkdfmfoonbpaaGreat