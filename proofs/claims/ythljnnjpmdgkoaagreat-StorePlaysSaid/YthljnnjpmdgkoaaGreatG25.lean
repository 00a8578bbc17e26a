/- Own lemmas and contracts that the claim's proof needs, laid together. The conditions stand in each. -/
import Derived.Test.YthljnnjpmdgkoaaGreatG24
import Derived.Test.YthljnnjpmdgkoaaGreatG16
import Derived.Deep.RegionHeld3
import Derived.BigRegion
namespace Go.Proofs.YthljnnjpmdgkoaaGreat
open Go Go.Proofs Go.RowKit
set_option maxRecDepth 100000
theorem zbg {P:Program} {fn:Func} {p t:Tmp} {ty:TypeId} (h:fn.results = #[.cell p ty,.tmp t]) (tmps:Array Value) (w:World) (g:Nat) (t0:TypeId) (cs:Array Value) (fr:Nat × Nat) (d:TypeDesc)
 (hp:tmps.getD p undef = .pointer (some ⟨g,0,none⟩)) (hg:w.heap[g]? = some (.cells cs t0 fr))
 (hu:P.underlying ty=some d) (hd:(match d with | .struct _ | .array _ _=>true | _=>false)=true) (hi:(P.info? ty).map (·.size)=some cs.size) :
 (results fn tmps).run P w = .ok (.tuple #[.agg cs,tmps.getD t undef]) w:=by
 have hp':tmps[p]?.getD undef = .pointer (some ⟨g,0,none⟩):=by simpa using hp
 simp [results,h,hp',asAddr,run_loadVar_row w g t0 ty cs fr d hg hu hd hi]
theorem zez {P:Program} {fn:Func} {p t u:Tmp} {ty:TypeId} (h:fn.results = #[.cell p ty,.tmp t,.tmp u]) (tmps:Array Value) (w:World) (g:Nat) (t0:TypeId) (cs:Array Value) (fr:Nat × Nat) (d:TypeDesc)
 (hp:tmps.getD p undef = .pointer (some ⟨g,0,none⟩)) (hg:w.heap[g]? = some (.cells cs t0 fr))
 (hu:P.underlying ty=some d) (hd:(match d with | .struct _ | .array _ _=>true | _=>false)=true) (hi:(P.info? ty).map (·.size)=some cs.size) :
 (results fn tmps).run P w = .ok (.tuple #[.agg cs,tmps.getD t undef,tmps.getD u undef]) w:=by
 have hp':tmps[p]?.getD undef = .pointer (some ⟨g,0,none⟩):=by simpa using hp
 simp [results,h,hp',asAddr,run_loadVar_row w g t0 ty cs fr d hg hu hd hi]
theorem zcs {P:Program} {fn:Func} {p t u v:Tmp} {ty:TypeId} (h:fn.results = #[.cell p ty,.tmp t,.tmp u,.tmp v]) (tmps:Array Value) (w:World) (g:Nat) (t0:TypeId) (cs:Array Value) (fr:Nat × Nat) (d:TypeDesc)
 (hp:tmps.getD p undef = .pointer (some ⟨g,0,none⟩)) (hg:w.heap[g]? = some (.cells cs t0 fr))
 (hu:P.underlying ty=some d) (hd:(match d with | .struct _ | .array _ _=>true | _=>false)=true) (hi:(P.info? ty).map (·.size)=some cs.size) :
 (results fn tmps).run P w = .ok (.tuple #[.agg cs,tmps.getD t undef,tmps.getD u undef,tmps.getD v undef]) w:=by
 have hp':tmps[p]?.getD undef = .pointer (some ⟨g,0,none⟩):=by simpa using hp
 simp [results,h,hp',asAddr,run_loadVar_row w g t0 ty cs fr d hg hu hd hi]
theorem zba {w X:World} {b:Nat} {a0 a1 a2 a3:Value} (hk:X.heap[b]? = some (.cells #[a0,a1,a2,a3] 30 (0,0))) (v0 v1 v2 v3:Value) :
 ∃ Z,((((X.setCell ⟨b,0,none⟩ v0).setCell ⟨b,1,none⟩ v1).setCell ⟨b,2,none⟩ v2).setCell ⟨b,3,none⟩ v3)=Z/\Z.heap[b]? = some (.cells #[v0,v1,v2,v3] 30 (0,0))/\(Fr No w X->w.heap.size<=b->Fr No w Z)/\Fr (fun j=>j=b) X Z:=by
 have z0:=zaa hk 0 v0;have z1:=zaa z0 1 v1;have z2:=zaa z1 2 v2;have z3:=zaa z2 3 v3
 exact ⟨_,rfl,by rw [z3];simp,fun hf hb=>((((hf.setCell (p:=⟨b,0,none⟩) (.inr hb) _).setCell (p:=⟨b,1,none⟩) (.inr hb) _).setCell (p:=⟨b,2,none⟩) (.inr hb) _).setCell (p:=⟨b,3,none⟩) (.inr hb) _),
  (((((Fr.refl (fun j=>j=b) X).setCell (p:=⟨b,0,none⟩) (.inl rfl) _).setCell (p:=⟨b,1,none⟩) (.inl rfl) _).setCell (p:=⟨b,2,none⟩) (.inl rfl) _).setCell (p:=⟨b,3,none⟩) (.inl rfl) _)⟩
theorem SlR.frp {α:Type} {f:α->List Value} {w w':World} {sz:Nat} {v:Value} {L:List α} {S:Nat->Prop} (h:SlR w sz f v L) (hf:Fr S w w') (hn:0 < L.length->∀ k,v.ownBlock=some k->¬ S k):SlR w' sz f v L:=by
 rcases Nat.eq_zero_or_pos L.length with h0 | hp
 · obtain rfl:=List.eq_nil_of_length_eq_zero h0
   obtain ⟨a,cap,rfl,h1,h2,_⟩:=h;exact ⟨a,cap,rfl,h1,h2,fun h=>by simp at h⟩
 exact h.fr hf (hn hp)
def zdi (E:Int) (L:List Ev) (w:World) (e:Ending) (w':World):Prop:=∃ a c,e = .returned (.tuple #[.slice a L.length c,.int .i64 E])/\SlF w' 101 13 evC (.slice a L.length c) L/\Fr No w w'
theorem zdi.bad {E E':Int} {L:List Ev} {w w':World} (h:E'=E) (hL:L = []) (hf:Fr No w w'):zdi E L w (.returned (.tuple #[.slice none 0 0,.int .i64 E'])) w':=by
 subst h hL;exact ⟨none,0,rfl,SlF.nil _ _ _ _,hf⟩
set_option maxHeartbeats 4000000 in
theorem zip (w:World) (D:Doc) (a1 a2:Option Addr) (n1 k1 k2:Nat) (hD:SlR w 13 evC (.slice a2 D.events.length k2) D.events) (hl:D.events.length<=100000000) (a b:Int) :
 Calls Tryz.prog 56 #[docV D (.slice a1 n1 k1) (.slice a2 D.events.length k2),.int .i64 a,.int .i64 b] w (zdi (zbq D a b) (if zbq D a b=0 then sinceL D a b else []) w):=by
 have hs:=fun W (hW:Fr No w W)=>zfw W D a1 a2 n1 k1 k2 (hD.fr0 hW) hl a b;have hf1:Fr No w (w.alloc (Obj.cells #[.int .i64 D.rev,.int .i64 D.mark,.slice a1 n1 k1,.slice a2 D.events.length k2] 30)):=(Fr.refl No w).alloc _;have HF1:=H_ hf1;have hE:zbq D a b=if a < 1\/b < a then 1 else if D.rev < b then 33 else if a < D.mark then 32 else 0:=rfl;have hL0:zbq D a b=0->(if zbq D a b=0 then sinceL D a b else [])=sinceL D a b:=fun h=>if_pos h;have hL1:zbq D a b≠0->(if zbq D a b=0 then sinceL D a b else []) = []:=fun h=>if_neg h;generalize (if zbq D a b=0 then sinceL D a b else [])=L at *;generalize hee:zbq D a b=ee at *;unfold docV at *;have HS:=H_ hs;have HL0:=H_ hL0;have HL1:=H_ hL1;clear hs hf1 hD hl hee hL0 hL1;by_cases h1:a < 1
 · rw [if_pos (.inl h1)] at hE
   have h1':decide (a < 1)=true:=decide_eq_true h1;have HE:=H_ hE;clear hE;go_enter Tryz.func56,Tryz.ntmps56;go_wp2
   go_ret2
   exact zdi.bad HE.out.symm (HL1.out (by rw [HE.out];decide)) HF1.out
 have h1':decide (a < 1)=false:=decide_eq_false h1
 by_cases h2:b < a
 · rw [if_pos (.inr h2)] at hE
   have h2':decide (a > b)=true:=decide_eq_true h2;have HE:=H_ hE;clear hE;go_enter Tryz.func56,Tryz.ntmps56;go_wp2
   go_ret2
   exact zdi.bad HE.out.symm (HL1.out (by rw [HE.out];decide)) HF1.out
 have h2':decide (a > b)=false:=decide_eq_false h2
 rw [if_neg (by omega)] at hE;by_cases h3:D.rev < b
 · rw [if_pos h3] at hE
   have h3':decide (b > D.rev)=true:=decide_eq_true h3;have HE:=H_ hE;clear hE;go_enter Tryz.func56,Tryz.ntmps56;go_wp2
   go_ret2
   exact zdi.bad HE.out.symm (HL1.out (by rw [HE.out];decide)) HF1.out
 have h3':decide (b > D.rev)=false:=decide_eq_false h3
 rw [if_neg h3] at hE;by_cases h4:a < D.mark
 · rw [if_pos h4] at hE
   have h4':decide (a < D.mark)=true:=decide_eq_true h4;have HE:=H_ hE;clear hE;go_enter Tryz.func56,Tryz.ntmps56;go_wp2
   go_ret2
   exact zdi.bad HE.out.symm (HL1.out (by rw [HE.out];decide)) HF1.out
 rw [if_neg h4] at hE
 have h4':decide (a < D.mark)=false:=decide_eq_false h4;have HE:=H_ hE;clear hE;go_enter Tryz.func56,Tryz.ntmps56;go_wp2_with (go_at_call 108;(with_reducible refine (HS.out _ HF1.out).mono ?_);rintro e w1 ⟨ea,ec,rfl,hs1,_,hf1⟩)
 go_ret2
 have hLL:=HL0.out HE.out;exact ⟨ea,ec,by rw [HE.out,hLL];rfl,by rw [hLL];exact hs1,HF1.out.trans0 hf1⟩
def DocVN (D:Doc) (w0:World) (D0:Doc) (u1 u2:Value) (w:World) (v:Value):Prop:=∃ b1 c1 b2 c2,v=docV D (.slice b1 D.kvs.length c1) (.slice b2 D.events.length c2)/\DocR w D (.slice b1 D.kvs.length c1) (.slice b2 D.events.length c2) ∧
 (∀ b,0 < D.kvs.length->(Value.slice b1 D.kvs.length c1).ownBlock=some b->(0 < D0.kvs.length/\u1.ownBlock=some b)\/w0.heap.size<=b)/\(∀ b,0 < D.events.length->(Value.slice b2 D.events.length c2).ownBlock=some b->(0 < D0.events.length/\u2.ownBlock=some b)\/w0.heap.size<=b)
def zdd (D:Doc) (rev:Int):Doc:=if zby D rev=0 then D.cut rev else D
def zjn (D:Doc) (rev:Int) (u1 u2:Value) (w:World) (e:Ending) (w':World):Prop:=∃ v,e = .returned (.tuple #[v,.int .i64 (zby D rev)])/\DocVN (zdd D rev) w D u1 u2 w' v/\Fr No w w'
set_option maxHeartbeats 8000000 in
theorem zhw (w:World) (D:Doc) (a1 a2:Option Addr) (k1 k2:Nat) (hD:DocR w D (.slice a1 D.kvs.length k1) (.slice a2 D.events.length k2)) (hs:KSorted D.kvs) (hl:D.kvs.length+D.events.length<=100000000) (rev:Int) :
 Calls Tryz.prog 55 #[docV D (.slice a1 D.kvs.length k1) (.slice a2 D.events.length k2),.int .i64 rev] w (zjn D rev (.slice a1 D.kvs.length k1) (.slice a2 D.events.length k2) w):=by
 have hat:=fun W (hW:Fr No w W) r=>zeb W D _ _ (hD.fr0 hW) hs hl r;have hsi:=fun W (hW:Fr No w W)=>zfw W D a1 a2 D.kvs.length k1 k2 (hD.evs.fr0 hW) (by omega) rev D.rev;have hD0:=fun W (hW:Fr No w W)=>hD.fr0 hW;have hkb:=fun h0=>hD.kvs.lt zae (by decide) h0;have hE:zby D rev=if D.rev < rev then 33 else if rev<=D.mark then 32 else 0:=rfl;have hC0:zby D rev≠0->zdd D rev=D:=fun h=>if_neg h;have hC1:zby D rev=0->zdd D rev=⟨D.rev,rev,D.at rev,sinceL D rev D.rev⟩:=fun h=>(if_pos h).trans rfl;unfold zjn;generalize zdd D rev=CD at *;generalize zby D rev=ce at *;generalize hKL:D.kvs=KL at *
 have hb1:((w.alloc (Obj.cells #[.int .i64 D.rev,.int .i64 D.mark,.slice a1 KL.length k1,.slice a2 D.events.length k2] 30)).alloc (Obj.cells #[.int .i64 0,.int .i64 0,.slice none 0 0,.slice none 0 0] 30)).heap[w.heap.size]? = some (Obj.cells #[.int .i64 D.rev,.int .i64 D.mark,.slice a1 KL.length k1,.slice a2 D.events.length k2] 30 (0,0)):=zaj (zad w _ _ rfl) _;have hb2:((w.alloc (Obj.cells #[.int .i64 D.rev,.int .i64 D.mark,.slice a1 KL.length k1,.slice a2 D.events.length k2] 30)).alloc (Obj.cells #[.int .i64 0,.int .i64 0,.slice none 0 0,.slice none 0 0] 30)).heap[w.heap.size+1]? = some (Obj.cells #[.int .i64 0,.int .i64 0,.slice none 0 0,.slice none 0 0] 30 (0,0)):=zad _ _ _ (by simp)
 have hf2:Fr No w ((w.alloc (Obj.cells #[.int .i64 D.rev,.int .i64 D.mark,.slice a1 KL.length k1,.slice a2 D.events.length k2] 30)).alloc (Obj.cells #[.int .i64 0,.int .i64 0,.slice none 0 0,.slice none 0 0] 30)):=((Fr.refl No w).alloc _).alloc _;have HB1:=H_ hb1;have HB2:=H_ hb2;have HF2:=H_ hf2
 have HAT:=H_ hat;have HSI:=H_ hsi;have HD0:=H_ hD0;have HC0:=H_ hC0;have HC1:=H_ hC1;have HKL:=H_ hKL;have HKB:=H_ hkb;clear hkb hb1 hb2 hf2 hat hsi hD0 hC0 hC1 hD hs hl hKL;unfold docV at *;go_enter Tryz.func55,Tryz.ntmps55;go_upto_region 1 with fail;generalize (w.alloc (Obj.cells #[.int .i64 D.rev,.int .i64 D.mark,.slice a1 KL.length k1,.slice a2 D.events.length k2] 30)).alloc (Obj.cells #[.int .i64 0,.int .i64 0,.slice none 0 0,.slice none 0 0] 30)=W2 at *;generalize hrb:w.heap.size+1=rb at *;generalize hdb:w.heap.size=db at *;have HS:=H_ (fun W (hW:Fr No W2 W)=>cells4 (hW.heap HB1.out id));have HR:Hid (∀ W,Fr No W2 W->W.heap[rb]? = some (Obj.cells #[.int .i64 0,.int .i64 0,.slice none 0 0,.slice none 0 0] 30 (0,0))):=H_ (fun W hW=>hW.heap HB2.out id);have hdr:db≠rb:=by omega
 obtain ⟨x0,x1,x2,x3⟩:=HS.out W2 (Fr.refl No W2);have l1:=zac HB1.out;have hr2:=HR.out W2 (Fr.refl No W2);have l2:=zac hr2;by_cases h1:D.rev < rev
 · have h1':decide (rev > D.rev)=true:=decide_eq_true h1
   rw [if_pos h1] at hE;have HE:=H_ hE;clear hE;obtain ⟨y0,y1,y2,y3⟩:=cells4 hr2;have yf:∀ j,W2.frozen? ⟨rb,j,none⟩=false:=fun j=>by simp [World.frozen?,hr2]
   obtain ⟨Z,hZ,hz,hzf,_⟩:=zba (w:=w) hr2 (.int .i64 D.rev) (.int .i64 D.mark) (.slice a1 KL.length k1) (.slice a2 D.events.length k2);have HZ:=H_ hZ;have HZ1:=H_ hz;have HZF:=H_ (hzf HF2.out (by omega));clear hZ hz hzf hr2;go_wp2;rw [HZ.out];refine bodyPost_ret (zbg rfl _ _ rb 30 _ (0,0) _ rfl HZ1.out Tryz.underlying30 rfl (by kernel_rfl)) rfl ⟨_,by rw [HE.out];rfl,?_,HZF.out⟩;rw [HC0.out (by rw [HE.out];decide)];exact ⟨a1,k1,a2,k2,by unfold docV;rw [HKL.out],by rw [HKL.out];exact HD0.out _ HZF.out,fun _ h0 h=>.inl ⟨h0,zef.trans h⟩,fun _ h0 h=>.inl ⟨h0,h⟩⟩
 have h1':decide (rev > D.rev)=false:=decide_eq_false h1
 rw [if_neg h1] at hE;by_cases h2:rev<=D.mark
 · have h2':decide (rev<=D.mark)=true:=decide_eq_true h2
   rw [if_pos h2] at hE;have HE:=H_ hE;clear hE;obtain ⟨y0,y1,y2,y3⟩:=cells4 hr2;have yf:∀ j,W2.frozen? ⟨rb,j,none⟩=false:=fun j=>by simp [World.frozen?,hr2]
   obtain ⟨Z,hZ,hz,hzf,_⟩:=zba (w:=w) hr2 (.int .i64 D.rev) (.int .i64 D.mark) (.slice a1 KL.length k1) (.slice a2 D.events.length k2);have HZ:=H_ hZ;have HZ1:=H_ hz;have HZF:=H_ (hzf HF2.out (by omega));clear hZ hz hzf hr2;go_wp2;rw [HZ.out];refine bodyPost_ret (zbg rfl _ _ rb 30 _ (0,0) _ rfl HZ1.out Tryz.underlying30 rfl (by kernel_rfl)) rfl ⟨_,by rw [HE.out];rfl,?_,HZF.out⟩;rw [HC0.out (by rw [HE.out];decide)];exact ⟨a1,k1,a2,k2,by unfold docV;rw [HKL.out],by rw [HKL.out];exact HD0.out _ HZF.out,fun _ h0 h=>.inl ⟨h0,zef.trans h⟩,fun _ h0 h=>.inl ⟨h0,h⟩⟩
 have h2':decide (rev<=D.mark)=false:=decide_eq_false h2
 rw [if_neg h2] at hE;have HE:=H_ hE;have HCD:=H_ (HC1.out hE);clear hE hr2;go_upto_region 5 with fail;have b1:=HS.out W2 (Fr.refl No W2);have b2:=HS.out W2.drew (Fr.refl No W2).drew;have C1:=H_ (HAT.out W2.drew HF2.out.drew rev);generalize D.at rev=AL at *;generalize sinceL D rev D.rev=EL at *;clear x0 x1 x2 x3
 go_region_held3 (fun W=>W.cell? ⟨db,0,none⟩=some (.int .i64 D.rev)/\W.cell? ⟨db,1,none⟩=some (.int .i64 D.mark)/\W.cell? ⟨db,2,none⟩=some (.slice a1 KL.length k1)/\W.cell? ⟨db,3,none⟩=some (.slice a2 D.events.length k2))
  (first | with_reducible exact b1 | with_reducible exact b2 | with_reducible exact b3 | with_reducible exact b4 | with_reducible exact b5)
  (first
    | (go_at_call 80;(with_reducible refine C1.out.mono ?_);rintro e w5 ⟨v5,rfl,hs5,h5,hw5⟩
       obtain ⟨aa,ac,rfl,_,_,_⟩:=hs5.shape;have G5:=H_ ((Fr.refl No W2).drew.trans0 h5);have b3:=HS.out w5 G5.out;have HV5:=H_ hs5;have HW5:=H_ hw5;have C2:=H_ (HSI.out w5 (HF2.out.trans0 G5.out));clear hs5 h5 hw5)
    | (go_at_call 108;(with_reducible refine C2.out.mono ?_);rintro e w6 ⟨ea,ec,rfl,hs6,how6,h6⟩
       have G6:=H_ (G5.out.trans0 h6);have HV6:=H_ hs6;have HOW:=H_ how6;have HV56:=H_ (HV5.out.fr0 h6);have b4:=HS.out w6 G6.out;have hr6:=HR.out w6 G6.out;obtain ⟨y0,y1,y2,y3⟩:=cells4 hr6;have yf:∀ j,w6.frozen? ⟨rb,j,none⟩=false:=fun j=>by simp [World.frozen?,hr6]
       have l6:=zac hr6;obtain ⟨Z,hZ,hz,hzf,hzr⟩:=zba (w:=w) hr6 (.int .i64 D.rev) (.int .i64 rev) (.slice aa AL.length ac) (.slice ea EL.length ec);have b5:=And.intro (hzr.cell b4.1 hdr) (And.intro (hzr.cell b4.2.1 hdr) (And.intro (hzr.cell b4.2.2.1 hdr) (hzr.cell b4.2.2.2 hdr)));rw [<-hZ] at b5;have HZ:=H_ hZ;have HZ1:=H_ hz;have HZF:=H_ (hzf (HF2.out.trans0 G6.out) (by omega));have HZR:=H_ hzr;clear hs6 h6 how6 hZ hz hzf hzr hr6))
 go_wp2;rw [HZ.out];refine bodyPost_ret (zbg rfl _ _ rb 30 _ (0,0) _ rfl HZ1.out Tryz.underlying30 rfl (by kernel_rfl)) rfl ⟨_,by rw [HE.out];rfl,?_,HZF.out⟩;rw [HCD.out];have hsz:=(HF2.out.trans0 G6.out).size;have hlt2:rb < W2.heap.size:=zac HB2.out;have hlt5:=G5.out.size;refine ⟨aa,ac,ea,ec,rfl,⟨HV56.out.frp HZR.out fun h0 b hb hbr=>?_,(HV6.out.toR zab).frp HZR.out fun h0 b hb hbr=>?_⟩,fun b h0 hb=>?_,fun b h0 hb=>.inr ?_⟩
 · have hbr':b=rb:=hbr
   rcases HW5.out with ⟨e1,e2⟩ | h
   · rw [e2] at h0
     rw [e1] at hb;have:=HKB.out h0 b hb;omega
   have:W2.heap.size<=b:=h b hb
   omega
 · have hbr':b=rb:=hbr
   have:=HOW.out b hb;omega
 · rcases HW5.out with ⟨e1,e2⟩ | h
   · exact .inl ⟨by rw [HKL.out,<-e2];exact h0,by rw [e1] at hb;exact zef.trans hb⟩
   right
   have h2:W2.heap.size<=b:=h b hb;have:=HF2.out.size;omega
 have:=HOW.out b hb
 have:=(HF2.out.trans0 G5.out).size;omega
theorem zbh {α:Type} {f:α->List Value} {P:Program} {w:World} {ops:Array Oper} {rest:List Oper} {o:Oper} {a:Act} {Q:Exit->Act->World->Prop} (hgd:o.guard=none) (s x:Operand) (t:TypeId)
 (ho:o.op = .call { callee:=.builtin .append,args:=#[s,x],argTypes:=#[t,t] })
 (e:TypeId) (i:TypeInfo) (z:Value) (sz bytes:Nat) (ht:P.underlying t=some (.slice e)) (hi:P.info? e=some i) (hz:i.zero=some z) (hsize:i.size=sz) (hby:i.bytes=bytes) (hzs:z.cells.size=sz) (hsz:0 < sz)
 (v:Value) (L:List α) (hs:a.eval s=v) (hown:SlF w e sz f v L)
 (b c:Nat) (y:α) (hx:a.eval x = .slice (some ⟨b,0,none⟩) 1 c) (hnews:∀ j u,(f y)[j]? = some u->w.cell? ((⟨b,0,none⟩:Addr).add j)=some u) (hl:(f y).length=sz) (h1:∀ u∈f y,u.oneCell'=true)
 (h63:L.length+1<=maxLen) (hbytes:(L.length+1) * bytes<=140737488355328)
 (h:∀ g o' cap w',SlF w' e sz f (.slice (some ⟨g,o',none⟩) (L.length+1) cap) (L++[y])->Fr (fun b=>v.ownBlock=some b) w w'->(v.ownBlock=some g\/g=w.heap.size)->g < w'.heap.size →
   wpList P ops Q rest (a.put o.dst (.slice (some ⟨g,o',none⟩) (L.length+1) cap)) w'):wpList P ops Q (o :: rest) a w:=by
 refine zao hgd s x t ho e i z sz bytes ht hi hz hsize hby hzs hsz v L hs hown b c y hx hnews hl h1 h63 hbytes ?_;intro g o' cap w' h2 h3 h4 h5;exact h g o' cap w' h2 ((Fr.refl _ w).grown h3 fun k hk=>.inl hk) h4 h5
theorem SlR.not4 {w:World} {v:Value} {L:List Ev} (h:SlR w 13 evC v L) (h0:0 < L.length) {b:Nat} (hb:v.ownBlock=some b) {a0 a1 a2 a3:Value} {t:TypeId} (hk:w.heap[b]? = some (.cells #[a0,a1,a2,a3] t (0,0))):False:=by
 obtain ⟨a,cap,rfl,h1,h2,h3⟩:=h;obtain ⟨g,o,rfl,h4⟩:=h3 h0;obtain rfl:g=b:=by simpa [Value.ownBlock] using hb
 have hx:L[0]? = some L[0]:=List.getElem?_eq_getElem h0;have hc:=h4 0 _ hx 12 _ rfl;have hn:(#[a0,a1,a2,a3]:Array Value)[o+0 * 13+12]? = none:=Array.getElem?_eq_none (by simp;try omega);unfold World.cell? at hc;dsimp only at hc;rw [hk] at hc;simp only [hn] at hc;cases hc
def DropX (de:Int) (L:List Ev) (DD D0:Doc) (u1 u2:Value) (w:World) (e:Ending) (w':World):Prop :=
 ∃ v a c,e = .returned (.tuple #[v,.slice a L.length c,.int .i64 de])/\DocVN DD w D0 u1 u2 w' v/\SlR w' 13 evC (.slice a L.length c) L/\Fr No w w'
theorem DropX.of {de de':Int} {L L':List Ev} {DD D0:Doc} {u1 u2:Value} {w w':World} {v:Value} {a:Option Addr} {c n:Nat} (h1:de=de') (h2:L=L') (hn:n=L'.length) (h3:DocVN DD w D0 u1 u2 w' v) (h4:SlR w' 13 evC (.slice a L'.length c) L') (h5:Fr No w w') :
 DropX de L DD D0 u1 u2 w (.returned (.tuple #[v,.slice a n c,.int .i64 de'])) w':=by
 subst h1 h2 hn;exact ⟨v,a,c,rfl,h3,h4,h5⟩
def DropAR (D:Doc) (keys:List ByteArray) (u1 u2:Value) (w:World) (e:Ending) (w':World):Prop:=DropX (dropDE D keys) (if dropDE D keys=0 then (dropsQ D keys).2 else []) (dropDD D keys) D u1 u2 w e w'
theorem zoy (rev:Int) (q:List Kv × List Ev) (k:ByteArray):(dropQ rev q k).1.length<=q.1.length+1/\(dropQ rev q k).2.length<=q.2.length+1/\(KSorted q.1->KSorted (dropQ rev q k).1):=by
 unfold dropQ
 split
 · refine ⟨zji _ _,by simp,fun h=>zcw h _⟩
 exact ⟨by omega,by omega,id⟩
theorem zhr {D:Doc} (hs:KSorted D.kvs) (hl:(D.at D.rev).length<=10000000) (keys:List ByteArray):∀ i≤ keys.length,(dropsQ D (keys.take i)).1.length<=10000000+i/\(dropsQ D (keys.take i)).2.length<=i/\KSorted (dropsQ D (keys.take i)).1:=by
 intro i
 induction i with
 | zero=>intro _;exact ⟨hl,Nat.le_refl 0,Doc.at_sorted hs _⟩
 | succ i ih =>
   intro hi;obtain ⟨a,b,c⟩:=ih (by omega);obtain ⟨x,hx⟩:∃ x,keys[i]? = some x:=⟨_,List.getElem?_eq_getElem (by omega)⟩;rw [zgh D keys hx];obtain ⟨p,q,r⟩:=zoy (D.rev+1) (dropsQ D (keys.take i)) x;exact ⟨by omega,by omega,r c⟩
set_option maxHeartbeats 8000000 in
theorem zkv (w:World) (D:Doc) (a1 a2:Option Addr) (k1 k2:Nat) (hD:DocR w D (.slice a1 D.kvs.length k1) (.slice a2 D.events.length k2)) (hs:KSorted D.kvs) (hl:D.kvs.length+D.events.length<=10000000) (hr : -1099511627776<=D.rev/\D.rev<=1099511627776)
 (vk:Value) (keys:List ByteArray) (hv:SlR w 1 strC vk keys) (hlk:keys.length<=100000) :
 Calls Tryz.prog 58 #[docV D (.slice a1 D.kvs.length k1) (.slice a2 D.events.length k2),vk] w (DropAR D keys (.slice a1 D.kvs.length k1) (.slice a2 D.events.length k2) w):=by
 obtain ⟨ka,kc,rfl,hv1,hv2,hv3⟩:=hv.shape
 have hso:(D.at D.rev).length<=10000000:=by
  rw [<-zeq];have:=zep D D.rev D.events.length;omega
 have hprt:=zhr hs (by omega) keys;have hat:=fun W (hW:Fr No w W)=>zeb W D _ _ (hD.fr0 hW) hs (by omega) D.rev;have hbeh:=fun W (hW:Fr No w W) a3 k3 E hE (hEl:E.length<=100000)=>zfa W D a1 a2 a3 D.kvs.length k1 k2 k3 E (hD.evs.fr0 hW) hE (by omega) hr;have hD0:=fun W (hW:Fr No w W)=>hD.fr0 hW;have hstep:=fun i x=>@zgh D keys i x;have hzero:dropsQ D (keys.take 0)=(D.at D.rev,[]):=rfl;have hall:dropsQ D (keys.take keys.length)=dropsQ D keys:=by rw [List.take_length]
 have hqd:∀ q k,dropQ (D.rev+1) q k=if 0 < (wasL q.1 k).version then (doneL q.1 ⟨2,⟨k,ByteArray.empty,0,D.rev+1,0,0⟩,wasL q.1 k⟩,q.2++[⟨2,⟨k,ByteArray.empty,0,D.rev+1,0,0⟩,wasL q.1 k⟩]) else q:=fun _ _=>rfl;have hwr:IntKind.i64.wrap (D.rev+1)=D.rev+1:=by rw [IntKind.wrap_i64];omega
 obtain ⟨i0,hi0,hz0,hz1,hz2⟩:=info_parts info73;have hb1:((w.alloc (Obj.cells #[.int .i64 D.rev,.int .i64 D.mark,.slice a1 D.kvs.length k1,.slice a2 D.events.length k2] 30)).alloc (Obj.cells #[.int .i64 0,.int .i64 0,.slice none 0 0,.slice none 0 0] 30)).heap[w.heap.size]? = some (Obj.cells #[.int .i64 D.rev,.int .i64 D.mark,.slice a1 D.kvs.length k1,.slice a2 D.events.length k2] 30 (0,0)):=zaj (zad w _ _ rfl) _;have hb2:((w.alloc (Obj.cells #[.int .i64 D.rev,.int .i64 D.mark,.slice a1 D.kvs.length k1,.slice a2 D.events.length k2] 30)).alloc (Obj.cells #[.int .i64 0,.int .i64 0,.slice none 0 0,.slice none 0 0] 30)).heap[w.heap.size+1]? = some (Obj.cells #[.int .i64 0,.int .i64 0,.slice none 0 0,.slice none 0 0] 30 (0,0)):=zad _ _ _ (by simp)
 have hf2:Fr No w ((w.alloc (Obj.cells #[.int .i64 D.rev,.int .i64 D.mark,.slice a1 D.kvs.length k1,.slice a2 D.events.length k2] 30)).alloc (Obj.cells #[.int .i64 0,.int .i64 0,.slice none 0 0,.slice none 0 0] 30)):=((Fr.refl No w).alloc _).alloc _;have HB1:=H_ hb1;have HB2:=H_ hb2;have HF2:=H_ hf2
 have HAT:=H_ hat;have HBEH:=H_ hbeh;have HD0:=H_ hD0;have HST:=H_ hstep;have HZERO:=H_ hzero;have HALL:=H_ hall;have HQD:=H_ hqd;have HPRT:=H_ hprt;have HV:=H_ hv;have HV3:=H_ hv3;clear hb1 hb2 hf2 hat hbeh hD0 hstep hzero hall hqd hprt hv hv3 hD hs hl hso;unfold docV at *;go_enter Tryz.func58,Tryz.ntmps58;go_upto_region 1 with fail;generalize (w.alloc (Obj.cells #[.int .i64 D.rev,.int .i64 D.mark,.slice a1 D.kvs.length k1,.slice a2 D.events.length k2] 30)).alloc (Obj.cells #[.int .i64 0,.int .i64 0,.slice none 0 0,.slice none 0 0] 30)=W2 at *;generalize hrb:w.heap.size+1=rb at *;generalize hdb:w.heap.size=db at *;have HS:=H_ (fun W (hW:Fr No W2 W)=>cells4 (hW.heap HB1.out id))
 have HR:Hid (∀ W,Fr No W2 W->W.heap[rb]? = some (Obj.cells #[.int .i64 0,.int .i64 0,.slice none 0 0,.slice none 0 0] 30 (0,0))):=H_ (fun W hW=>hW.heap HB2.out id);have hdr:db≠rb:=by omega
 obtain ⟨x0,x1,x2,x3⟩:=HS.out W2 (Fr.refl No W2);have l1:=zac HB1.out;go_upto_region 4 with (go_at_call 80;(with_reducible refine (HAT.out _ HF2.out).mono ?_);rintro e w3 ⟨v3,rfl,hs3,h3,_⟩);have HS3:=H_ hs3;have HF3:=H_ h3;clear hs3 h3 x0 x1 x2 x3
 go_loopg [7,8,9] keys.length (fun g s7 s8 s9 wr=>∃ (i:Nat) (nv ev:Value),s7=nv/\s8=ev/\s9 = .int .i64 i/\i+g=keys.length/\Hid (SlR wr 6 kvC nv (dropsQ D (keys.take i)).1)/\Hid (SlF wr 101 13 evC ev (dropsQ D (keys.take i)).2)/\Hid (Fr No W2 wr) ∧
  Hid (∀ b,ev.ownBlock=some b->W2.heap.size<=b)/\Hid (0 < (dropsQ D (keys.take i)).1.length->∀ b,nv.ownBlock=some b->ev.ownBlock≠some b))
 case atStart=>exact ⟨0,v3,_,rfl,rfl,rfl,by omega,H_ (by rw [HZERO.out];exact HS3.out),H_ (by rw [HZERO.out];exact SlF.nil _ _ _ _),HF3,H_ (by simp [Value.ownBlock]),H_ (by simp [Value.ownBlock])⟩
 case round =>
  obtain ⟨i,nv,ev,rfl,rfl,rfl,hi,HN,HE,HF,HO,HX⟩:=hrel;obtain ⟨p1,p2,p3⟩:=HPRT.out i (by omega)
  cases gk with
  | zero =>
    have hil:¬ (i:Int) < (keys.length:Int):=(by omega);have hie:i=keys.length:=(by omega);subst hie;rw [HALL.out] at HN HE HX p1 p2 p3;clear HST HQD HALL HZERO HPRT HX;generalize hq:dropsQ D keys=q at HN HE p1 p2 p3;obtain ⟨N,E⟩:=q;dsimp only at HN HE p1 p2 p3;have hE0:dropDE D keys=if E≠[]/\1099511627776<=D.rev then 37 else 0:=(by unfold dropDE;rw [hq];rfl);have hD1:dropDE D keys=0->dropDD D keys=zbf D E:=fun h=>(if_pos h).trans (by rw [hq]);have hD2:dropDE D keys≠0->dropDD D keys=D:=fun h=>if_neg h;have hL1:dropDE D keys=0->(if dropDE D keys=0 then (dropsQ D keys).2 else [])=E:=fun h=>(if_pos h).trans (by rw [hq]);have hL2:dropDE D keys≠0->(if dropDE D keys=0 then (dropsQ D keys).2 else []) = []:=fun h=>if_neg h;clear hq;obtain ⟨ea,ec,rfl,_,_,_⟩:=HE.out.shape
    obtain ⟨x0,x1,x2,x3⟩:=HS.out wr HF.out;have lx:=World.block_lt_of_cell? _ _ x0;have hEl:E = [] ↔ E.length=0:=List.length_eq_zero_iff.symm;have hb:=HBEH.out wr (HF2.out.trans0 HF.out) ea ec E (HE.out.toR zab) (by omega);unfold zpq docV at hb;have hbk:(zbf D E).kvs=D.kvs:=(by unfold zbf;split <;> rfl);have HBK:=H_ hbk;generalize zbf D E=BD at *;have HB:=H_ hb;have HD1:=H_ hD1;have HD2:=H_ hD2;have HL1:=H_ hL1;have HL2:=H_ hL2;clear hb hbk hD1 hD2 hL1 hL2;by_cases hbad:E≠[]/\1099511627776<=D.rev
    · rw [if_pos hbad] at hE0
      have hpos:0 < (E.length:Int):=by
       have:E.length≠0:=fun h=>hbad.1 (hEl.2 h);omega
      have htop:1099511627776<=D.rev:=hbad.2;have HE0:=H_ hE0;have hrr:=HR.out wr HF.out;obtain ⟨y0,y1,y2,y3⟩:=cells4 hrr;have yf:∀ j,wr.frozen? ⟨rb,j,none⟩=false:=fun j=>by simp [World.frozen?,hrr]
      have lr:=zac hrr;obtain ⟨Z,hZ,hz,hzf,_⟩:=zba (w:=w) hrr (.int .i64 D.rev) (.int .i64 D.mark) (.slice a1 D.kvs.length k1) (.slice a2 D.events.length k2);have HZ:=H_ hZ;have HZ1:=H_ hz;have HZF:=H_ (hzf (HF2.out.trans0 HF.out) (by omega));have hde:dropDE D keys≠0:=(by rw [HE0.out];decide);have HDE:=H_ hde;clear hZ hz hzf hrr hE0 hbad hEl hde;go_wp2;rw [HZ.out];have hde:=HDE.out;refine bodyPost_ret (zez rfl _ _ rb 30 _ (0,0) _ rfl HZ1.out Tryz.underlying30 rfl (by kernel_rfl)) rfl ?_;refine DropX.of HE0.out (HL2.out hde) rfl ?_ (SlR.nil _ _ _) HZF.out;rw [HD2.out hde];exact ⟨a1,k1,a2,k2,rfl,HD0.out _ HZF.out,fun _ h0 h=>.inl ⟨h0,h⟩,fun _ h0 h=>.inl ⟨h0,h⟩⟩
    rw [if_neg hbad] at hE0
    have HE0:=H_ hE0;have HDD:=H_ (HD1.out hE0);have HLL:=H_ (HL1.out hE0);clear hE0;by_cases hE1:E = []
    · subst hE1
      simp only [List.length_nil] at *
      go_wp2_with (go_at_call 111;(with_reducible refine HB.out.mono ?_);rintro e w5 ⟨ba,bc,rfl,hs5,h5,hn5⟩
                   have hrr:=HR.out w5 (HF.out.trans0 h5);obtain ⟨y0,y1,y2,y3⟩:=cells4 hrr;have yf:∀ j,w5.frozen? ⟨rb,j,none⟩=false:=fun j=>by simp [World.frozen?,hrr]
                   have lr:=zac hrr;obtain ⟨Z,hZ,hz,hzf,hzr⟩:=zba (w:=w) hrr (.int .i64 BD.rev) (.int .i64 BD.mark) (.slice a1 D.kvs.length k1) (.slice ba BD.events.length bc);have HZ:=H_ hZ;have HZ1:=H_ hz;have HZF:=H_ (hzf ((HF2.out.trans0 HF.out).trans0 h5) (by omega));have HZR:=H_ hzr;have HOB:Hid (0 < BD.events.length->∀ b,(Value.slice ba BD.events.length bc).ownBlock=some b->b=rb->False):=H_ (fun h0 b hb hbr=>hs5.not4 (a0:=.int .i64 0) (a1:=.int .i64 0) (a2:=.slice none 0 0) (a3:=.slice none 0 0) (t:=30) h0 hb (by rw [hbr];exact hrr));have HS5:=H_ hs5;have H5:=H_ h5;have HN5:=H_ hn5;clear hZ hz hzf hzr hrr hs5 h5 hn5)
      rw [HZ.out];refine bodyPost_ret (zez rfl _ _ rb 30 _ (0,0) _ rfl HZ1.out Tryz.underlying30 rfl (by kernel_rfl)) rfl ?_;refine DropX.of HE0.out HLL.out rfl ?_ ?_ HZF.out
      · rw [HDD.out]
        refine ⟨a1,k1,ba,bc,by rw [HBK.out];rfl,⟨by rw [HBK.out];exact (HD0.out _ HZF.out).kvs,HS5.out.frp HZR.out fun h0 b hb hbr=>HOB.out h0 b hb hbr⟩,fun _ h0 h=>.inl ⟨by rw [HBK.out] at h0;exact h0,zef.trans h⟩,fun b h0 hb=>(HN5.out b h0 hb).imp id fun h=>by have:=(HF2.out.trans0 HF.out).size;omega⟩
      refine (HE.out.toR zab).frp (((H5.out.mono fun _ _ h=>h.elim)).trans HZR.out fun _ _ h=>h) fun _ b hb hbr=>?_
      have hbr':b=rb:=hbr;have h2:=HO.out b hb;have h3:=zac HB2.out;omega
    have hpos:0 < (E.length:Int):=by
     have:E.length≠0:=fun h=>hE1 (hEl.2 h);omega
    have htop:D.rev < 1099511627776:=by
     rcases Int.lt_or_le D.rev 1099511627776 with h | h
     · exact h
     exact absurd ⟨hE1,h⟩ hbad
    clear hbad hEl hE1
    go_wp2_with (go_at_call 111;(with_reducible refine HB.out.mono ?_);rintro e w5 ⟨ba,bc,rfl,hs5,h5,hn5⟩
                 have hrr:=HR.out w5 (HF.out.trans0 h5);obtain ⟨y0,y1,y2,y3⟩:=cells4 hrr;have yf:∀ j,w5.frozen? ⟨rb,j,none⟩=false:=fun j=>by simp [World.frozen?,hrr]
                 have lr:=zac hrr;obtain ⟨Z,hZ,hz,hzf,hzr⟩:=zba (w:=w) hrr (.int .i64 BD.rev) (.int .i64 BD.mark) (.slice a1 D.kvs.length k1) (.slice ba BD.events.length bc);have HZ:=H_ hZ;have HZ1:=H_ hz;have HZF:=H_ (hzf ((HF2.out.trans0 HF.out).trans0 h5) (by omega));have HZR:=H_ hzr;have HOB:Hid (0 < BD.events.length->∀ b,(Value.slice ba BD.events.length bc).ownBlock=some b->b=rb->False):=H_ (fun h0 b hb hbr=>hs5.not4 (a0:=.int .i64 0) (a1:=.int .i64 0) (a2:=.slice none 0 0) (a3:=.slice none 0 0) (t:=30) h0 hb (by rw [hbr];exact hrr));have HS5:=H_ hs5;have H5:=H_ h5;have HN5:=H_ hn5;clear hZ hz hzf hzr hrr hs5 h5 hn5)
    rw [HZ.out];refine bodyPost_ret (zez rfl _ _ rb 30 _ (0,0) _ rfl HZ1.out Tryz.underlying30 rfl (by kernel_rfl)) rfl ?_;refine DropX.of HE0.out HLL.out rfl ?_ ?_ HZF.out
    · rw [HDD.out]
      refine ⟨a1,k1,ba,bc,by rw [HBK.out];rfl,⟨by rw [HBK.out];exact (HD0.out _ HZF.out).kvs,HS5.out.frp HZR.out fun h0 b hb hbr=>HOB.out h0 b hb hbr⟩,fun _ h0 h=>.inl ⟨by rw [HBK.out] at h0;exact h0,zef.trans h⟩,fun b h0 hb=>(HN5.out b h0 hb).imp id fun h=>by have:=(HF2.out.trans0 HF.out).size;omega⟩
    refine (HE.out.toR zab).frp (((H5.out.mono fun _ _ h=>h.elim)).trans HZR.out fun _ _ h=>h) fun _ b hb hbr=>?_
    have hbr':b=rb:=hbr;have h2:=HO.out b hb;have h3:=zac HB2.out;omega
  | succ g =>
    have hil:(i:Int) < (keys.length:Int):=(by omega);obtain ⟨x,hx⟩:∃ x,keys[i]? = some x:=⟨_,List.getElem?_eq_getElem (by omega)⟩;obtain ⟨gk,ok,rfl⟩:=HV3.out (by omega);have hst:=HST.out i x hx;rw [HQD.out] at hst;generalize dropsQ D (keys.take i)=q at *;obtain ⟨N,E⟩:=q;dsimp only at *;have hkc:=(HV.out.fr0 (HF2.out.trans0 HF.out)).cell0 zcy i hx rfl;simp only [Nat.mul_one] at hkc;have lk:=World.block_lt_of_cell? _ _ hkc;have hhas:=fun W (hW:Fr No wr W)=>zhm W u7 N (HN.out.fr0 hW) (by omega) x;have hwas:(hasL N x).getD kv0=wasL N x:=rfl;rw [hwas] at hhas;have HHAS:=H_ hhas;have HST1:=H_ hst;clear hhas hst hwas;generalize wasL N x=was at *;obtain ⟨q1,q2,q3,q4,q5,q6⟩:=was;unfold kvV at HHAS;dsimp only at HHAS HST1
    go_upto_region 7 with (go_at_call 72;(with_reducible refine (HHAS.out _ (Fr.refl No _)).mono ?_);rintro e w4 ⟨rfl,h4⟩);have g4:=HF.out.trans0 h4;have g5:Fr No W2 (w4.alloc (Obj.cells #[.string q1,.string q2,.int .i64 q3,.int .i64 q4,.int .i64 q5,.int .i64 q6] 99)):=g4.alloc _;have hb5:=zad w4 (Obj.cells #[.string q1,.string q2,.int .i64 q3,.int .i64 q4,.int .i64 q5,.int .i64 q6] 99) _ rfl;have hkc5:(w4.alloc (Obj.cells #[.string q1,.string q2,.int .i64 q3,.int .i64 q4,.int .i64 q5,.int .i64 q6] 99)).cell? ⟨gk,ok+i,none⟩=some (.string x):=(h4.alloc _).cell0 hkc;have hne5:Fr No wr (w4.alloc (Obj.cells #[.string q1,.string q2,.int .i64 q3,.int .i64 q4,.int .i64 q5,.int .i64 q6] 99)):=h4.alloc _;generalize w4.alloc (Obj.cells #[.string q1,.string q2,.int .i64 q3,.int .i64 q4,.int .i64 q5,.int .i64 q6] 99)=W5 at *
    generalize hwb:w4.heap.size=wb at *;have G5:=H_ g5;have H5:=H_ hne5;have l5:=zac hb5;have HB5:=H_ hb5;clear hkc lk g4 h4;have lk5:=World.block_lt_of_cell? _ _ hkc5;have d0:W5.cell? ⟨db,0,none⟩=some (.int .i64 D.rev):=(HS.out W5 g5).1;have ld:=World.block_lt_of_cell? _ _ d0;obtain ⟨c0,c1,c2,c3,c4,c5⟩:=cells6 hb5;clear hb5 g5 hne5 hwb;by_cases hver:0 < q5
    · have hver':decide (q5 > 0)=true:=decide_eq_true hver
      have hst:=HST1.out;rw [if_pos hver] at hst;have HST2:=H_ hst;clear hst HST1;go_upto_region 8 with fail
      go_region
      have hb6:=zad W5 (Obj.cells #[.int .i64 2,.string x,.string ⟨#[]⟩,.int .i64 0,.int .i64 (D.rev+1),.int .i64 0,.int .i64 0,.string q1,.string q2,.int .i64 q3,.int .i64 q4,.int .i64 q5,.int .i64 q6] 101) _ rfl;have hf6:Fr No W5 (W5.alloc (Obj.cells #[.int .i64 2,.string x,.string ⟨#[]⟩,.int .i64 0,.int .i64 (D.rev+1),.int .i64 0,.int .i64 0,.string q1,.string q2,.int .i64 q3,.int .i64 q4,.int .i64 q5,.int .i64 q6] 101)):=(Fr.refl No W5).alloc _;generalize W5.alloc (Obj.cells #[.int .i64 2,.string x,.string ⟨#[]⟩,.int .i64 0,.int .i64 (D.rev+1),.int .i64 0,.int .i64 0,.string q1,.string q2,.int .i64 q3,.int .i64 q4,.int .i64 q5,.int .i64 q6] 101)=W6 at *;generalize hxb:W5.heap.size=xb at *;have HB6:=H_ hb6;have H6:=H_ (H5.out.trans0 hf6);have G6:=H_ (G5.out.trans0 hf6)
      clear hb6 hf6 c0 c1 c2 c3 c4 c5 d0 ld hkc5 lk5 l5 HB5;have hdn:=zcj W6.drew u7 N (HN.out.fr0 H6.out.drew) (by omega) ⟨2,⟨x,⟨#[]⟩,0,D.rev+1,0,0⟩,⟨q1,q2,q3,q4,q5,q6⟩⟩;rw [zgt p3] at hdn;have HDN:=H_ hdn;have HEV:=H_ (fun W (hW:Fr No W6 W)=>(show W.heap[xb]? = some (Obj.cells (evC ⟨2,⟨x,⟨#[]⟩,0,D.rev+1,0,0⟩,⟨q1,q2,q3,q4,q5,q6⟩⟩).toArray 101 (0,0)) from hW.heap HB6.out id));have hq:=HST2.out;have HQ:Hid (dropsQ D (keys.take (i+1))=(doneL N ⟨2,⟨x,⟨#[]⟩,0,D.rev+1,0,0⟩,⟨q1,q2,q3,q4,q5,q6⟩⟩,E++[⟨2,⟨x,⟨#[]⟩,0,D.rev+1,0,0⟩,⟨q1,q2,q3,q4,q5,q6⟩⟩])):=H_ hq;clear hdn hq HST2;unfold evV at HDN;dsimp only at HDN;obtain ⟨e0,e1,e2,e3,e4,e5,e6,e7,e8,e9,e10,e11,e12⟩:=cells13 HB6.out;have le:=zac HB6.out
      go_upto_region 10 with (go_at_call 73;(with_reducible refine HDN.out.mono ?_);rintro e w7 ⟨v7,rfl,hs7,how7,h7⟩);have h67:Fr No W6 w7:=(Fr.refl No W6).drew.trans0 h7;clear e0 e1 e2 e3 e4 e5 e6 e7 e8 e9 e10 e11 e12 le;have hb7:=h67.heap HB6.out id;obtain ⟨e0,e1,e2,e3,e4,e5,e6,e7,e8,e9,e10,e11,e12⟩:=cells13 hb7;have le:=zac hb7;have HS7:=H_ hs7;have HO7:=H_ how7;have H67:=H_ h67;have HE7:=H_ (HE.out.fr0 (H6.out.trans0 h67));have HNEW:=H_ (zar w7 (evC ⟨2,⟨x,⟨#[]⟩,0,D.rev+1,0,0⟩,⟨q1,q2,q3,q4,q5,q6⟩⟩) 101 (0,0));clear hs7 how7 h7 h67 hb7;go_wp2_with (at_builtin;(refine zbh rfl _ _ 28 rfl 101 i0 _ 13 136 Tryz.underlying28 hi0 hz0 hz1 hz2 rfl (by decide) _ E rfl (HE7.out.alloc _) w7.heap.size 1 ⟨2,⟨x,⟨#[]⟩,0,D.rev+1,0,0⟩,⟨q1,q2,q3,q4,q5,q6⟩⟩ rfl HNEW.out rfl (zek _) (by unfold maxLen;omega) (by omega) ?_))
      intro g1 o1 cap1 w8 hs8 hf8 hb8 hlt8;have HS8:=H_ hs8;have HF8:=H_ hf8;have HB8:=H_ hb8;clear hs8 hf8 hb8 e0 e1 e2 e3 e4 e5 e6 e7 e8 e9 e10 e11 e12 le;go_wp2;go_roundg g
      case rel =>
       have hEl:∀ b,u8.ownBlock=some b->b < wr.heap.size:=HE.out.lt;have s6:=H6.out.size;have s67:=H67.out.size;have w78:Fr (fun b=>u8.ownBlock=some b) w7 w8:=(((Fr.refl No w7).alloc _).mono fun _ _ h=>h.elim).trans HF8.out fun _ _ h=>h;refine ⟨i+1,v7,_,rfl,rfl,by go_num,by omega,H_ ?_,H_ ?_,H_ ?_,H_ ?_,H_ ?_⟩
       · rw [HQ.out]
         refine (HS7.out.toR zae).fr w78 fun b hb e=>?_;have h1:=HO7.out b hb;have h2:=hEl b e;have h3:W6.heap.size<=b:=h1;omega
       · rw [HQ.out];exact HS8.out
       · exact (G6.out.trans0 H67.out).trans w78 fun b hb h=>absurd (HO.out b h) (by omega)
       · intro b hb
         have hb':g1=b:=(by simpa [Value.ownBlock] using hb);have s2:=(G6.out.trans0 H67.out).size;rcases HB8.out with h | h
         · exact hb' ▸ HO.out g1 h
         have h9:=h
         omega
       rw [HQ.out]
       intro _ b hb he;have hb':g1=b:=(by simpa [Value.ownBlock] using he);have h1:W6.heap.size<=b:=HO7.out b hb;have h2:=HS7.out.lt b hb;rcases HB8.out with h | h
       · have:=hEl g1 h;omega
       have h9:=h
       omega
      case measure=>omega
    have hver':decide (q5 > 0)=false:=decide_eq_false hver
    have hst:=HST1.out;rw [if_neg hver] at hst;have HST2:=H_ hst;clear hst HST1;go_wp2;go_roundg g
    case rel=>exact ⟨i+1,u7,u8,rfl,rfl,by go_num,by omega,H_ (by rw [HST2.out];exact HN.out.fr0 H5.out),H_ (by rw [HST2.out];exact HE.out.fr0 H5.out),G5,HO,H_ (by rw [HST2.out];exact HX.out)⟩
    case measure=>omega
end Go.Proofs.YthljnnjpmdgkoaaGreat