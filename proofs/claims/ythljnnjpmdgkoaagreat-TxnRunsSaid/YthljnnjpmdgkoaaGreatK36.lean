/- Own lemmas. -/
import Derived.Test.YthljnnjpmdgkoaaGreatK32
import Derived.Test.YthljnnjpmdgkoaaGreatK34
import Derived.Test.YthljnnjpmdgkoaaGreatK35
import Derived.Test.YthljnnjpmdgkoaaGreatK30
import Derived.Test.YthljnnjpmdgkoaaGreatK22
import Derived.Test.YthljnnjpmdgkoaaGreatK26
import Derived.Test.YthljnnjpmdgkoaaGreatK28
import Derived.Test.YthljnnjpmdgkoaaGreatK29
import Derived.Deep.RegionHeld3
import Derived.Deep.DeepCutAuto
namespace Go.Proofs.YthljnnjpmdgkoaaGreat
open Go Go.Proofs Go.RowKit
set_option maxRecDepth 100000
theorem zfj {P:Program} {fn:Func} {p t u v x:Tmp} {ty:TypeId} (h:fn.results=#[.cell p ty,.tmp t,.tmp u,.tmp v,.tmp x]) (tmps:Array Value) (w:World) (g:Nat) (t0:TypeId) (cs:Array Value) (fr:Nat×Nat) (d:TypeDesc)
 (hp:tmps.getD p undef=.pointer (some ⟨g,0,none⟩)) (hg:w.heap[g]?=some (.cells cs t0 fr))
 (hu:P.underlying ty=some d) (hd:(match d with | .struct _ | .array _ _=>true | _=>false)=true) (hi:(P.info? ty).map (·.size)=some cs.size) :
 (results fn tmps).run P w=.ok (.tuple #[.agg cs,tmps.getD t undef,tmps.getD u undef,tmps.getD v undef,tmps.getD x undef]) w:=by
 have a:tmps[p]?.getD undef=.pointer (some ⟨g,0,none⟩):=by simpa using hp
 simp [results,h,a,asAddr,run_loadVar_row w g t0 ty cs fr d hg hu hd hi]
theorem SlF.not_ty {α:Type} {f:α->List Value} {w:World} {e sz:Nat} {v:Value} {L:List α} (h:SlF w e sz f v L) {b:Nat} (hb:v.ownBlock=some b) {cs:Array Value} {t:TypeId} {fr:Nat×Nat} (hk:w.heap[b]?=some (.cells cs t fr)) (ht:t≠e):False:=by
 rcases h with ⟨_,⟨rfl,_⟩ | ⟨g,o,cap,c,rfl,a,_⟩⟩
 · simp [Value.ownBlock] at hb
 obtain rfl:g=b:=by simpa [Value.ownBlock] using hb
 rw [a] at hk;cases hk
 exact ht rfl
theorem AnsR.off {w:World} {v:Value} {Z:List (Ans×Value)} (h:AnsR w v Z) {rb:Nat} {cs:Array Value} {fr:Nat×Nat} (hk:w.heap[rb]?=some (.cells cs 30 fr)):∀ b,ansF v Z b->¬ b=rb:=by
 rintro b (e | ⟨i,q,a,e⟩) rfl
 · exact h.sl.not_ty e hk (by decide)
 exact (h.kvs i q a).not_ty e hk (by decide)
theorem DocVN.put {D D0:Doc} {w0 w1 w w':World} {u1 u2 v:Value} {rb:Nat} (h:DocVN D w1 D0 u1 u2 w v) (hs:w0.heap.size<=w1.heap.size) (hf:Fr (fun j=>j=rb) w w') {z0 z1 z2 z3:Value} {t:TypeId} (hr:w.heap[rb]?=some (.cells #[z0,z1,z2,z3] t (0,0))):DocVN D w0 D0 u1 u2 w' v:=by
 obtain ⟨b1,f,b2,d,e,a,g,i⟩:=h
 exact ⟨b1,f,b2,d,e,⟨a.kvs.frp hf fun h0 b hb e=>(by have c:b=rb:=e;rw [c] at hb;exact a.kvs.not4k h0 hb hr),a.evs.frp hf fun h0 b hb e=>(by have c:b=rb:=e;rw [c] at hb;exact a.evs.not4 h0 hb hr)⟩,
  fun b h0 hb=>(g b h0 hb).imp id fun h=>Nat.le_trans hs h,fun b h0 hb=>(i b h0 hb).imp id fun h=>Nat.le_trans hs h⟩
def allCD (D:Doc) (cs:List Cmp):Bool:=cs.all (holdsD D)
def branchD (D:Doc) (cs:List Cmp) (la lb:List Opr):List Opr:=if allCD D cs then la else lb
def runDE (D:Doc) (cs:List Cmp) (la lb:List Opr):Int:=if txnE cs la lb≠0 then txnE cs la lb else zbc D (branchD D cs la lb)
def zfy (RE:Int) (ok:Bool) (A:List Ans) (L:List Ev) (DD D0:Doc) (u1 u2:Value) (w:World) (e:Ending) (w':World):Prop :=
 ∃ v av a c Z,e=.returned (.tuple #[v,.bool ok,av,.slice a L.length c,.int .i64 RE])/\DocVN DD w D0 u1 u2 w' v/\AnsR w' av Z/\Z.map (·.1)=A/\SlR w' 13 evC (.slice a L.length c) L/\Fr No w w'
def zkb (RE:Int) (D:Doc) (cs:List Cmp) (br:List Opr) (u1 u2:Value) (w:World) (e:Ending) (w':World):Prop :=
 zfy RE (decide (RE=0)&&allCD D cs) (if RE=0 then (runD D br).A else []) (if RE=0 then (runD D br).E else []) (if RE=0 then zdn D br else D) D u1 u2 w e w'
theorem zfy.bad {RE:Int} {ok:Bool} {A:List Ans} {L:List Ev} {DD D0:Doc} {u1 u2 v:Value} {w w':World} (h1:ok=false) (h2:A = []) (h3:L = []) (h4:DocVN DD w D0 u1 u2 w' v) (hf:Fr No w w') :
 zfy RE ok A L DD D0 u1 u2 w (.returned (.tuple #[v,.bool false,.slice none 0 0,.slice none 0 0,.int .i64 RE])) w':=by
 subst h1 h2 h3;exact ⟨v,.slice none 0 0,none,0,[],rfl,h4,AnsR.nil _,rfl,SlR.nil _ _ _,hf⟩
set_option maxHeartbeats 16000000 in
theorem zne (w:World) (D:Doc) (a1 a2:Option Addr) (k1 k2:Nat) (hD:DocR w D (.slice a1 D.kvs.length k1) (.slice a2 D.events.length k2)) (hs:KSorted D.kvs) (hl:D.kvs.length+D.events.length<=1000000) (hr : -1099511627776<=D.rev/\D.rev<=1099511627776)
 (v va vb:Value) (cs:List Cmp) (la lb:List Opr) (hv:SlR w 5 cmpC v cs) (hva:SlR w 10 opC va la) (hvb:SlR w 10 opC vb lb) (hlc:cs.length<=100000) (hla:la.length<=100000) (hlb:lb.length<=100000)
 (hks:∀ c∈cs,c.key.size<=1099511627776) (hka:∀ o∈la,o.rg.key.size<=1099511627776) (hkb:∀ o∈lb,o.rg.key.size<=1099511627776)
 (hrun:checkE (branchD D cs la lb)=0->zba D (branchD D cs la lb)=0->∀ i o,(branchD D cs la lb)[i]?=some o->StepD (runD D ((branchD D cs la lb).take i)) o) (hfin:checkE (branchD D cs la lb)=0->zba D (branchD D cs la lb)=0->(runD D (branchD D cs la lb)).E.length<=1000000) :
 Calls Tryz.prog 34 #[docV D (.slice a1 D.kvs.length k1) (.slice a2 D.events.length k2),v,va,vb] w (zkb (runDE D cs la lb) D cs (branchD D cs la lb) (.slice a1 D.kvs.length k1) (.slice a2 D.events.length k2) w):=by
 have a5:=fun W (h:Fr No w W)=>znd W v va vb cs la lb (hv.fr0 h) (hva.fr0 h) (hvb.fr0 h) (by omega) (by omega) (by omega) hks hka hkb;have Y:=fun W (h:Fr No w W) c (hc:c∈cs)=>zki W D a1 a2 k1 k2 (hD.fr0 h) hs (by omega) c (hks c hc);have t:=fun W (h:Fr No w W) vo (ho:SlR W 10 opC vo (branchD D cs la lb))=>zkj W D a1 a2 k1 k2 (hD.fr0 h) hs hl hr vo _ ho (by unfold branchD;split <;> assumption) (by unfold branchD;split <;> assumption) hrun hfin;have a0:=fun W (h:Fr No w W)=>hD.fr0 h;obtain ⟨a,cap,rfl,bp,bD,ha⟩:=hv.shape;obtain ⟨aa,aN,b4,_,_,_⟩:=hva.shape;obtain ⟨ab,aE,b7,_,_,_⟩:=hvb.shape;subst b4 b7;unfold docV at *
 have n:((w.alloc (Obj.cells #[.int .i64 D.rev,.int .i64 D.mark,.slice a1 D.kvs.length k1,.slice a2 D.events.length k2] 30)).alloc (Obj.cells #[.int .i64 0,.int .i64 0,.slice none 0 0,.slice none 0 0] 30)).heap[w.heap.size]?=some (Obj.cells #[.int .i64 D.rev,.int .i64 D.mark,.slice a1 D.kvs.length k1,.slice a2 D.events.length k2] 30 (0,0)):=zaj (zad w _ _ rfl) _;have V:((w.alloc (Obj.cells #[.int .i64 D.rev,.int .i64 D.mark,.slice a1 D.kvs.length k1,.slice a2 D.events.length k2] 30)).alloc (Obj.cells #[.int .i64 0,.int .i64 0,.slice none 0 0,.slice none 0 0] 30)).heap[w.heap.size+1]?=some (Obj.cells #[.int .i64 0,.int .i64 0,.slice none 0 0,.slice none 0 0] 30 (0,0)):=zad _ _ _ (by simp)
 have a3:Fr No w ((w.alloc (Obj.cells #[.int .i64 D.rev,.int .i64 D.mark,.slice a1 D.kvs.length k1,.slice a2 D.events.length k2] 30)).alloc (Obj.cells #[.int .i64 0,.int .i64 0,.slice none 0 0,.slice none 0 0] 30)):=((Fr.refl No w).alloc _).alloc _;have aQ:=H_ n;have ah:=H_ V;have k:=H_ a3;have HV:=H_ hv;have HA:=H_ ha;have F:=H_ a5;have aJ:=H_ Y;have ad:=H_ hva;have am:=H_ hvb;have aB:=H_ a0;by_cases hE:txnE cs la lb=0
 · have x:runDE D cs la lb=zbc D (branchD D cs la lb):=by unfold runDE;rw [if_neg (by simp [hE])]
   rw [x];rw [hE] at F;have an:branchD D cs la lb=if allCD D cs then la else lb:=rfl;unfold zkb;unfold zwj at t;have aK:¬ zbc D (branchD D cs la lb)=0->zdn D (branchD D cs la lb)=D:=fun h=>if_neg h;have aP:¬ zbc D (branchD D cs la lb)=0->(if zbc D (branchD D cs la lb)=0 then (runD D (branchD D cs la lb)).A else []) = []:=fun h=>if_neg h;have az:¬ zbc D (branchD D cs la lb)=0->(if zbc D (branchD D cs la lb)=0 then (runD D (branchD D cs la lb)).E else []) = []:=fun h=>if_neg h;generalize (if zbc D (branchD D cs la lb)=0 then (runD D (branchD D cs la lb)).A else [])=A at *;generalize (if zbc D (branchD D cs la lb)=0 then (runD D (branchD D cs la lb)).E else [])=L at *;generalize zdn D (branchD D cs la lb)=l at *;generalize zbc D (branchD D cs la lb)=er at *;unfold ApplyX at t;have aC:=H_ an;have ay:=H_ t
   have bC:=H_ aK;have aT:=H_ aP;have b6:=H_ az;clear hv ha a5 t Y hva hvb hE hks hka hkb an a0 hD x n V a3 hrun hfin aK aP az;go_enter Tryz.func34,Tryz.ntmps34;go_upto_region 1 with fail;generalize (w.alloc (Obj.cells #[.int .i64 D.rev,.int .i64 D.mark,.slice a1 D.kvs.length k1,.slice a2 D.events.length k2] 30)).alloc (Obj.cells #[.int .i64 0,.int .i64 0,.slice none 0 0,.slice none 0 0] 30)=W2 at *;generalize aV:w.heap.size+1=rb at *;generalize aX:w.heap.size=z at *;have HS:=H_ (fun W (hW:Fr No W2 W)=>cells4 (hW.heap aQ.out id));have HR:Hid (∀ W,Fr No W2 W->W.heap[rb]?=some (Obj.cells #[.int .i64 0,.int .i64 0,.slice none 0 0,.slice none 0 0] 30 (0,0))):=H_ (fun W hW=>hW.heap ah.out id);have bv:Hid (w.heap.size<=z/\z<rb):=H_ ⟨by omega,by omega⟩
   go_wp2_with (go_at_call 81;refine (F.out _ k.out).mono ?_;rintro e w1 ⟨rfl,q⟩);have U:=H_ q;clear q
   go_loopg [14,15] cs.length (fun g s14 s15 wr=>∃ (i:Nat) (b:Bool),s14=.bool b/\s15=.int .i64 i/\i+g=cs.length/\b=allCD D (cs.take i)/\Hid (Fr No W2 wr))
   case atStart=>exact ⟨0,true,rfl,rfl,by simp,rfl,U⟩
   case round =>
    obtain ⟨i,b,rfl,rfl,hi,N,M⟩:=hrel
    cases gk with
    | zero =>
      have ao:¬ (i:Int)<(cs.length:Int):=(by omega);have aj:cs.take i=cs:=List.take_of_length_le (by omega);rw [aj] at N;have HB:=H_ N;clear N
      have O:∀ W,Fr No W2 W->Calls Tryz.prog 59 #[.agg #[.int .i64 D.rev,.int .i64 D.mark,.slice a1 D.kvs.length k1,.slice a2 D.events.length k2],cond b (.slice aa la.length aN) (.slice ab lb.length aE)] W (fun e w'=>∃ v av a c Z,e=.returned (.tuple #[v,av,.slice a L.length c,.int .i64 er])/\DocVN l W D (.slice a1 D.kvs.length k1) (.slice a2 D.events.length k2) w' v/\AnsR w' av Z/\Z.map (·.1)=A/\SlR w' 13 evC (.slice a L.length c) L/\Fr No W w'):=fun W hW=>ay.out W (k.out.trans0 hW) _ (by
       rw [aC.out,<-HB.out];cases b
       · exact am.out.fr0 (k.out.trans0 hW)
       exact ad.out.fr0 (k.out.trans0 hW))
      have K:=H_ O;clear O ay aJ F ad am aC ao aj;obtain ⟨x0,x1,x2,x3⟩:=HS.out wr M.out;have l0:=World.block_lt_of_cell? _ _ x0;cases b
      all_goals
       dsimp only [cond] at K
       go_upto_region 14 with (go_at_call 59;refine (K.out _ M.out).mono ?_;rintro e P ⟨v6,b8,ea,ec,Z2,rfl,aU,aM,aq,ag,h6⟩
                               obtain ⟨b1,c1,b2,c2,aG,ax,aO,ak⟩:=aU;subst aG;have Q:Hid (DocVN l wr D (.slice a1 D.kvs.length k1) (.slice a2 D.events.length k2) P (docV l (.slice b1 l.kvs.length c1) (.slice b2 l.events.length c2))):=H_ ⟨b1,c1,b2,c2,rfl,ax,aO,ak⟩;unfold docV)
       have aA:Fr No W2 P:=M.out.trans0 h6;have H6:=H_ aA;have ap:=H_ aM;have aY:=H_ aq;have ar:=H_ ag;clear aM aq ag h6 aA ax aO ak x0 x1 x2 x3 l0;have H:=zad P (Obj.cells #[.int .i64 l.rev,.int .i64 l.mark,.slice b1 l.kvs.length c1,.slice b2 l.events.length c2] 30) _ rfl;have r:Fr No P (P.alloc (Obj.cells #[.int .i64 l.rev,.int .i64 l.mark,.slice b1 l.kvs.length c1,.slice b2 l.events.length c2] 30)):=(Fr.refl No P).alloc _;generalize P.alloc (Obj.cells #[.int .i64 l.rev,.int .i64 l.mark,.slice b1 l.kvs.length c1,.slice b2 l.events.length c2] 30)=W7 at *;generalize bw:P.heap.size=xb at *;have g7:=H6.out.trans0 r;have bx:=M.out.size;have bb:=k.out.size;have b3:=H_ (Q.out.fr0 r);have aF:=H_ (ap.out.fr r fun _ _ h=>h);have aI:=H_ (ar.out.fr0 r);have a4:=H_ g7
       obtain ⟨c0,bM,bO,c3⟩:=cells4 H;have bR:=zaa H;have d:=HR.out W7 g7;obtain ⟨y0,y1,y2,y3⟩:=cells4 d;obtain ⟨x0,x1,x2,x3⟩:=HS.out W7 g7;have l0:=World.block_lt_of_cell? _ _ x0;have yf:∀ j,W7.frozen? ⟨rb,j,none⟩=false:=fun j=>by simp [World.frozen?,d]
       have lr:=zaa d;clear Q ap ar;by_cases f:er=0
       · have au:(er==0)=true:=by rw [f];rfl
         obtain ⟨Zw,I,J,m,s⟩:=zcx (w:=w) d (.int .i64 l.rev) (.int .i64 l.mark) (.slice b1 l.kvs.length c1) (.slice b2 l.events.length c2);have HZ:=H_ I;have u:=H_ J;have G:=H_ s;have S:=H_ d;have T:=H_ f;clear I J m s d H r g7 f;go_wp2;rw [HZ.out];refine bodyPost_ret (zfj rfl _ _ rb 30 _ (0,0) _ rfl u.out Tryz.underlying30 rfl (by kernel_rfl)) rfl ?_;have f:=T.out;rw [<-HB.out];have bL:=a4.out.size;exact ⟨_,b8,ea,ec,Z2,rfl,b3.out.put (by omega) G.out S.out,aF.out.fr G.out (aF.out.off S.out),aY.out,aI.out.frp G.out fun h0 b N e=>(by have e':b=rb:=e;rw [e'] at N;exact aI.out.not4 h0 N S.out),(k.out.trans0 a4.out).trans G.out fun j hj e=>(by have e':j=rb:=e;omega)⟩
       have au:(er==0)=false:=beq_eq_false_iff_ne.2 f
       obtain ⟨Zw,I,J,m,s⟩:=zcx (w:=w) d (.int .i64 D.rev) (.int .i64 D.mark) (.slice a1 D.kvs.length k1) (.slice a2 D.events.length k2);have HZ:=H_ I;have u:=H_ J;have B:=H_ (m (k.out.trans0 a4.out) (by omega));have T:=H_ f;clear I J m s d H r g7 f;go_wp2;rw [HZ.out];refine bodyPost_ret (zfj rfl _ _ rb 30 _ (0,0) _ rfl u.out Tryz.underlying30 rfl (by kernel_rfl)) rfl ?_;have f:=T.out;exact zfy.bad (by first | rfl | (rw [decide_eq_false f];rfl)) (aT.out f) (b6.out f) ⟨a1,k1,a2,k2,rfl,aB.out _ B.out,fun _ h0 h=>.inl ⟨h0,zhp.trans h⟩,fun _ h0 h=>.inl ⟨h0,h⟩⟩ B.out
    | succ g =>
      obtain ⟨C,go,rfl⟩:=HA.out (by omega);obtain ⟨p,hx⟩:∃ p,cs[i]?=some p:=⟨_,List.getElem?_eq_getElem (by omega)⟩;have ao:(i:Int)<(cs.length:Int):=(by omega);have X:=fun W (h:Fr No w W)=>aJ.out W h p (List.mem_of_getElem? hx);have y:=fun W (h:Fr No w W)=>(HV.out.fr0 h).cells5 zau i hx rfl;unfold cmpV at X;have al:=H_ X;have ae:=H_ y
      have ai:allCD D (cs.take (i+1))=(b&&holdsD D p):=by
       rw [N];unfold allCD;rw [List.take_add_one,hx,List.all_append];simp
      have aL:=H_ ai;clear hx X ai N y;generalize holdsD D p=hp at *;obtain ⟨q1,q2,q3,q4,q5⟩:=p;dsimp only at al ae;have a6:Hid (∀ W,Fr No wr W->(W.cell? ⟨z,0,none⟩=some (.int .i64 D.rev)/\W.cell? ⟨z,1,none⟩=some (.int .i64 D.mark)/\W.cell? ⟨z,2,none⟩=some (.slice a1 D.kvs.length k1)/\W.cell? ⟨z,3,none⟩=some (.slice a2 D.events.length k2))/\(W.cell? ⟨C,go+i * 5,none⟩=some (.string q1)/\W.cell? ⟨C,go+i * 5+1,none⟩=some (.int .i64 q2)/\W.cell? ⟨C,go+i * 5+2,none⟩=some (.int .i64 q3)/\W.cell? ⟨C,go+i * 5+3,none⟩=some (.int .i64 q4)/\W.cell? ⟨C,go+i * 5+4,none⟩=some (.string q5))):=H_ (fun W hW=>⟨HS.out W (M.out.trans0 hW),ae.out W (k.out.trans0 (M.out.trans0 hW))⟩);have s1:=a6.out wr (Fr.refl No wr);have s2:=a6.out wr.drew (Fr.refl No wr).drew;go_upto_region 8 with fail
      go_region_held3 (fun W=>(W.cell? ⟨z,0,none⟩=some (.int .i64 D.rev)/\W.cell? ⟨z,1,none⟩=some (.int .i64 D.mark)/\W.cell? ⟨z,2,none⟩=some (.slice a1 D.kvs.length k1)/\W.cell? ⟨z,3,none⟩=some (.slice a2 D.events.length k2))/\(W.cell? ⟨C,go+i * 5,none⟩=some (.string q1)/\W.cell? ⟨C,go+i * 5+1,none⟩=some (.int .i64 q2)/\W.cell? ⟨C,go+i * 5+2,none⟩=some (.int .i64 q3)/\W.cell? ⟨C,go+i * 5+3,none⟩=some (.int .i64 q4)/\W.cell? ⟨C,go+i * 5+4,none⟩=some (.string q5)))
       (first | with_reducible exact s1 | with_reducible exact s2 | with_reducible exact s3 | fail)
       (first
         | (go_at_call 32;refine (al.out wr.drew (k.out.trans0 (M.out.trans0 (Fr.refl No wr).drew))).mono ?_;rintro e w5 ⟨rfl,R⟩
            have s3:=a6.out w5 ((Fr.refl No wr).drew.trans0 R);have aD:=H_ (M.out.trans0 ((Fr.refl No wr).drew.trans0 R));clear R))
      clear s1 s2 s3;cases hp
      · go_wp2
        go_roundg g
        case rel=>exact ⟨i+1,false,by go_num,by go_num,by omega,by rw [aL.out];simp,aD⟩
        case measure=>omega
      go_wp2
      go_roundg g
      case rel=>exact ⟨i+1,b,by go_num,by go_num,by omega,by rw [aL.out];simp,aD⟩
      case measure=>omega
 have x:runDE D cs la lb=txnE cs la lb:=by unfold runDE;rw [if_pos hE]
 rw [x];have br:(txnE cs la lb==0)=false:=beq_eq_false_iff_ne.2 hE;unfold zkb;rw [if_neg hE,if_neg hE,if_neg hE,decide_eq_false hE,Bool.false_and];generalize txnE cs la lb=te at *;clear hv ha a5 t Y hva hvb hks hka hkb a0 hD x n V a3 hrun hfin hE;go_enter Tryz.func34,Tryz.ntmps34;go_upto_region 1 with fail;generalize (w.alloc (Obj.cells #[.int .i64 D.rev,.int .i64 D.mark,.slice a1 D.kvs.length k1,.slice a2 D.events.length k2] 30)).alloc (Obj.cells #[.int .i64 0,.int .i64 0,.slice none 0 0,.slice none 0 0] 30)=W2 at *;generalize aV:w.heap.size+1=rb at *;generalize aX:w.heap.size=z at *;go_upto_region 2 with (go_at_call 81;refine (F.out _ k.out).mono ?_;rintro e w1 ⟨rfl,q⟩);have n:=q.heap aQ.out id;have d:=q.heap ah.out id;have U:=H_ (k.out.trans0 q);obtain ⟨x0,x1,x2,x3⟩:=cells4 n
 obtain ⟨y0,y1,y2,y3⟩:=cells4 d;have l1:=zaa n;have lr:=zaa d;have yf:∀ j,w1.frozen? ⟨rb,j,none⟩=false:=fun j=>by simp [World.frozen?,d]
 obtain ⟨Zw,I,J,m,s⟩:=zcx (w:=w) d (.int .i64 D.rev) (.int .i64 D.mark) (.slice a1 D.kvs.length k1) (.slice a2 D.events.length k2);have HZ:=H_ I;have u:=H_ J;have B:=H_ (m U.out (by omega));clear I J m s d n q;go_wp2;rw [HZ.out];refine bodyPost_ret (zfj rfl _ _ rb 30 _ (0,0) _ rfl u.out Tryz.underlying30 rfl (by kernel_rfl)) rfl ?_;exact zfy.bad rfl rfl rfl ⟨a1,k1,a2,k2,rfl,aB.out _ B.out,fun _ h0 h=>.inl ⟨h0,zhp.trans h⟩,fun _ h0 h=>.inl ⟨h0,h⟩⟩ B.out
def allB (S:St) (cs:List Cmp):Bool:=cs.all (holdsB S)
def branch (S:St) (cs:List Cmp) (la lb:List Opr):List Opr:=if allB S cs then la else lb
def runE (S:St) (cs:List Cmp) (la lb:List Opr):Int:=if txnE cs la lb≠0 then txnE cs la lb else applyE S (branch S cs la lb)
theorem zie {TA:zaq} (hT:TreeOk TA 1000000) {k:Nat} {S:St} {D:Doc} (h:Good k S D) (hk:k<=70) (w:World) (s:Nat) (F:Nat->Prop) (hS:zak TA w s S F) (v:Value) (ops:List Opr) (hv:SlR w 10 opC v ops)
 (hvF:0<ops.length->∀ b,v.ownBlock=some b->¬ F b) (hl:ops.length<=30) (hks:∀ o∈ops,o.rg.key.size<=3000) :
 Calls Tryz.prog 37 #[.pointer (some ⟨s,0,none⟩),v] w fun e w'=>∃ av ev,e=.returned (.tuple #[av,ev,.int .i64 (applyE S ops)])/\∃ F' Z,zak TA w' s (if applyE S ops=0 then applyS S ops else S) F'/\AnsR w' av Z ∧
  Z.map (·.1)=(if applyE S ops=0 then (runR (S.rev+1) ⟨S,[],[]⟩ ops).A else [])/\SlF w' 101 13 evC ev (if applyE S ops=0 then (runR (S.rev+1) ⟨S,[],[]⟩ ops).E else [])/\Fr F w w'/\(∀ b,F' b->F b\/w.heap.size<=b) ∧
  (∀ b,ev.ownBlock=some b->w.heap.size<=b/\¬ F' b)/\(∀ b,ansF av Z b->w.heap.size<=b/\¬ F' b):=by
 have l:=h.rev;have p:=h.rev1;have g:=h.cpl.m0;by_cases he:applyE S ops=0
 · obtain ⟨c,j⟩:=zbe he
   simp only [if_pos he];rw [he];refine (zjy hT (n:=20000 * k+20000) (by omega) w s S F hS v ops hv hvF (by omega) (fun o ho=>by have:=hks o ho;omega) (by unfold top;omega) (by unfold top;omega) c j fun i o ho=>?_);have f:=(List.getElem?_eq_some_iff.1 ho).1;rw [l];exact (h.runs hk c (fun o ho=>by have:=hks o ho;omega) i (by omega)).2 o ho
 simp only [if_neg he]
 refine (zol hT w s S F hS v ops hv (by omega) (fun o ho=>by have:=hks o ho;omega) he).mono ?_;rintro e w' ⟨rfl,d⟩;refine ⟨_,_,rfl,F,[],hS.fr0 hT d,AnsR.nil _,rfl,SlF.nil _ _ _ _,d.mono fun _ _ h=>h.elim,fun b h=>.inl h,fun b a=>by simp [Value.ownBlock] at a,fun b a=>?_⟩;rcases a with a | ⟨i,q,m,_⟩
 · simp [Value.ownBlock] at a
 simp at m
def RunRE (TA:zaq) (s:Nat) (S:St) (F:Nat->Prop) (cs:List Cmp) (br:List Opr) (RE:Int) (w:World) (e:Ending) (w':World):Prop :=
 ∃ av ev,e=.returned (.tuple #[.bool (decide (RE=0)&&allB S cs),av,ev,.int .i64 RE])/\∃ F' Z,zak TA w' s (if RE=0 then applyS S br else S) F'/\AnsR w' av Z ∧
  Z.map (·.1)=(if RE=0 then (runR (S.rev+1) ⟨S,[],[]⟩ br).A else [])/\SlF w' 101 13 evC ev (if RE=0 then (runR (S.rev+1) ⟨S,[],[]⟩ br).E else [])/\Fr F w w'/\(∀ b,F' b->F b\/w.heap.size<=b) ∧
  (∀ b,ev.ownBlock=some b->w.heap.size<=b/\¬ F' b)/\(∀ b,ansF av Z b->w.heap.size<=b/\¬ F' b)
def RunR (TA:zaq) (s:Nat) (S:St) (F:Nat->Prop) (cs:List Cmp) (la lb:List Opr) (w:World) (e:Ending) (w':World):Prop:=RunRE TA s S F cs (branch S cs la lb) (runE S cs la lb) w e w'
theorem zoo {TA:zaq} {N:Nat} (hT:TreeOk TA N) {n:Nat} (hn:n<=1099511627) (w:World) (s:Nat) (S:St) (F:Nat->Prop) (hS:zak TA w s S F) (hok:StOk n S) (hN:S.T.length<=1099511627) (hr0:0<=S.rev) (c:Cmp)
 (hs:c.key.size<=1099511627776) :
 Calls Tryz.prog 31 #[.pointer (some ⟨s,0,none⟩),cmpV c] w fun e w'=>e=.returned (.bool (holdsB S c))/\Fr No w w':=by
 by_cases hE:cmpE c=0
 · exact zqq hT hn w s S F hS hok hN hr0 c hs hE
 have a:holdsB S c=false:=by unfold holdsB;rw [show (cmpE c==0)=false from beq_eq_false_iff_ne.2 hE];rfl
 rw [a];exact zwh w s c hs hE
set_option maxHeartbeats 4000000 in
theorem zqp {TA:zaq} (hT:TreeOk TA 1000000) {k:Nat} {S:St} {D:Doc} (h:Good k S D) (hk:k<=70) (w:World) (s:Nat) (F:Nat->Prop) (hS:zak TA w s S F)
 (v va vb:Value) (cs:List Cmp) (la lb:List Opr) (hv:SlR w 5 cmpC v cs) (hva:SlR w 10 opC va la) (hvb:SlR w 10 opC vb lb)
 (haF:0<la.length->∀ b,va.ownBlock=some b->¬ F b) (hbF:0<lb.length->∀ b,vb.ownBlock=some b->¬ F b) (hlc:cs.length<=30) (hla:la.length<=30) (hlb:lb.length<=30)
 (hks:∀ c∈cs,c.key.size<=3000) (hka:∀ o∈la,o.rg.key.size<=3000) (hkb:∀ o∈lb,o.rg.key.size<=3000) :
 Calls Tryz.prog 33 #[.pointer (some ⟨s,0,none⟩),v,va,vb] w (RunR TA s S F cs la lb w):=by
 have u:=fun W (h:Fr No w W)=>zgj W v va vb cs la lb (hv.fr0 h) (hva.fr0 h) (hvb.fr0 h) (by omega) (by omega) (by omega) (fun c h=>by have:=hks c h;omega) (fun o h=>by have:=hka o h;omega) (fun o h=>by have:=hkb o h;omega);by_cases hE:txnE cs la lb=0
 · rw [hE] at u
   have f:runE S cs la lb=applyE S (branch S cs la lb):=(by unfold runE;rw [if_neg (by simp [hE])])
   have B:=fun W (hf:Fr No w W) (Q:Value) (ho:SlR W 10 opC Q (branch S cs la lb)) (x:0<(branch S cs la lb).length->∀ b,Q.ownBlock=some b->¬ F b)=>zie hT h hk W s F (hS.fr0 hT hf) Q (branch S cs la lb) ho x
    (by unfold branch;split <;> assumption) (by unfold branch;split <;> assumption)
   rw [<-f] at B;have l:=h.size;have a8:=h.rev;have a1:=h.cpl.m0;have K:=fun W (hf:Fr No w W) c (hc:c∈cs)=>zoo hT (n:=20000 * k) (by omega) W s S F (hS.fr0 hT hf) h.ok (by omega) (by omega) c (by have:=hks c hc;omega);obtain ⟨a,cap,rfl,ar,az,ha⟩:=hv.shape;have HV:=H_ hv;have HA:=H_ ha;have y:=H_ u;have P:=H_ B;have L:=H_ K;have T:=H_ hva;have a4:=H_ hvb;have a5:=H_ haF;have a0:=H_ hbF;have M:branch S cs la lb=if allB S cs then la else lb:=rfl;have J:=H_ M
   show Calls Tryz.prog 33 _ w (RunRE TA s S F cs (branch S cs la lb) (runE S cs la lb) w)
   generalize runE S cs la lb=RE at *;clear hv ha u B K hva hvb haF hbF hE hks hka hkb M hS h f a8 a1 l;go_enter Tryz.func33,Tryz.ntmps33;go_wp2_with (go_at_call 38;refine (y.out _ (Fr.refl No w)).mono ?_;rintro e w1 ⟨rfl,z⟩)
   go_loopg [32,13,14] cs.length (fun g s32 s13 s14 wr=>∃ (i:Nat) (b:Bool),s32=.int .i64 i/\i+g=cs.length/\s13=.bool b/\s14=(if b then va else vb)/\b=allB S (cs.take i)/\Hid (Fr No w wr))
   case atStart=>exact ⟨0,true,rfl,by simp,rfl,rfl,rfl,H_ z⟩
   case round =>
    obtain ⟨i,b,rfl,hi,rfl,rfl,j,r⟩:=hrel
    cases gk with
    | zero =>
      have a6:¬ (i:Int)<(cs.length:Int):=(by omega);have a3:cs.take i=cs:=List.take_of_length_le (by omega);rw [a3] at j;have HB:=H_ j;clear j
      have N:SlR wr 10 opC (if b then va else vb) (branch S cs la lb):=by
       rw [J.out,<-HB.out];cases b
       · exact a4.out.fr0 r.out
       exact T.out.fr0 r.out
      have x:0<(branch S cs la lb).length->∀ k,(if b then va else vb).ownBlock=some k->¬ F k:=by
       rw [J.out,<-HB.out];cases b
       · exact a0.out
       exact a5.out
      have d:=H_ (P.out wr r.out _ N x);clear N x P L y;generalize (if b then va else vb)=Q at *;have l:=r.out.size;have O:=H_ l;clear l;by_cases hz:RE=0
      · subst hz
        simp only [if_true] at d;go_wp2_with (go_at_call 37;refine d.out.mono ?_;rintro e R ⟨av,ev,rfl,U,Z,Y,h2,h3,h4,h5,X,h7,h8⟩)
        (try simp only [Exit.inBlock,Exit.then]);refine bodyPost_ret (zcj rfl _ _ _) rfl ?_
        have l:=O.out;unfold RunRE;refine ⟨av,ev,by rw [<-HB.out];rfl,U,Z,Y,h2,h3,h4,(r.out.mono fun _ _ h=>h.elim).trans h5 fun _ _ h=>h,fun k hk=>?_,fun k hk=>?_,fun k hk=>?_⟩
        · rcases X k hk with h | h
          · exact .inl h
          exact .inr (by omega)
        · have:=h7 k hk;exact ⟨by omega,this.2⟩
        have:=h8 k hk;exact ⟨by omega,this.2⟩
      have aq:(RE==0)=false:=beq_eq_false_iff_ne.2 hz
      have H:decide (RE=0)=false:=decide_eq_false hz;simp only [if_neg hz] at d;go_wp2_with (go_at_call 37;refine d.out.mono ?_;rintro e R ⟨av,ev,rfl,U,Z,Y,h2,h3,h4,h5,X,h7,h8⟩)
      (try simp only [Exit.inBlock,Exit.then]);refine bodyPost_ret (zcj rfl _ _ _) rfl ?_
      have l:=O.out;unfold RunRE;simp only [if_neg hz,H];refine ⟨_,_,rfl,U,[],Y,AnsR.nil _,rfl,SlF.nil _ _ _ _,(r.out.mono fun _ _ h=>h.elim).trans h5 fun _ _ h=>h,fun k hk=>?_,fun k hk=>by simp [Value.ownBlock] at hk,fun k hk=>?_⟩
      · rcases X k hk with h | h
        · exact .inl h
        exact .inr (by omega)
      rcases hk with j | ⟨i,q,hq,_⟩
      · simp [Value.ownBlock] at j
      simp at hq
    | succ g =>
      obtain ⟨gb,go,rfl⟩:=HA.out (by omega);obtain ⟨p,A⟩:∃ p,cs[i]?=some p:=⟨_,List.getElem?_eq_getElem (by omega)⟩;have m:=HV.out.fr0 r.out;have x0:=m.cell0 zau i A rfl;have x1:=m.cell zau i 1 A rfl;have x2:=m.cell zau i 2 A rfl;have x3:=m.cell zau i 3 A rfl;have x4:=m.cell zau i 4 A rfl;have a6:(i:Int)<(cs.length:Int):=(by omega);have C:=fun W (h:Fr No w W)=>L.out W h p (List.mem_of_getElem? A);unfold cmpV at C;have E:=H_ C
      have I:allB S (cs.take (i+1))=(b&&holdsB S p):=by
       rw [j];unfold allB;rw [List.take_add_one,A,List.all_append];simp
      have G:=H_ I;clear m A C I j;generalize holdsB S p=hp at *;cases hp
      · go_wp2_with (go_at_call 31;refine (E.out _ (r.out.alloc _)).mono ?_;rintro e R ⟨rfl,t⟩)
        go_roundg g
        case rel=>exact ⟨i+1,false,by go_num,by omega,rfl,rfl,by rw [G.out];simp,H_ ((r.out.alloc _).trans0 t)⟩
        case measure=>omega
      cases b
      · go_wp2_with (go_at_call 31;refine (E.out _ (r.out.alloc _)).mono ?_;rintro e R ⟨rfl,t⟩)
        go_roundg g
        case rel=>exact ⟨i+1,false,by go_num,by omega,rfl,rfl,by rw [G.out];simp,H_ ((r.out.alloc _).trans0 t)⟩
        case measure=>omega
      go_wp2_with (go_at_call 31;refine (E.out _ (r.out.alloc _)).mono ?_;rintro e R ⟨rfl,t⟩)
      go_roundg g
      case rel=>exact ⟨i+1,true,by go_num,by omega,rfl,rfl,by rw [G.out];simp,H_ ((r.out.alloc _).trans0 t)⟩
      case measure=>omega
 have f:runE S cs la lb=txnE cs la lb:=by unfold runE;rw [if_pos hE]
 have V:runE S cs la lb≠0:=(by rw [f];exact hE)
 show Calls Tryz.prog 33 _ w (RunRE TA s S F cs (branch S cs la lb) (runE S cs la lb) w)
 rw [f];have au:(txnE cs la lb==0)=false:=beq_eq_false_iff_ne.2 hE;generalize txnE cs la lb=te at *;have y:=H_ u;have HS:=H_ hS;have HE:=H_ hE;obtain ⟨a,cap,rfl,_,_,_⟩:=hv.shape;obtain ⟨aa,al,rfl,_,_,_⟩:=hva.shape;obtain ⟨ab,ag,rfl,_,_,_⟩:=hvb.shape;clear hv hva hvb u hS haF hbF hks hka hkb h f V hE;go_enter Tryz.func33,Tryz.ntmps33;go_wp2_with (go_at_call 38;refine (y.out _ (Fr.refl No w)).mono ?_;rintro e w1 ⟨rfl,z⟩)
 (try simp only [Exit.inBlock,Exit.then]);refine bodyPost_ret (zcj rfl _ _ _) rfl ?_
 have H:decide (te=0)=false:=decide_eq_false HE.out;unfold RunRE;simp only [if_neg HE.out,H];refine ⟨_,_,rfl,F,[],HS.out.fr0 hT z,AnsR.nil _,rfl,SlF.nil _ _ _ _,z.mono fun _ _ h=>h.elim,fun b h=>.inl h,fun b j=>by simp [Value.ownBlock] at j,fun b j=>?_⟩;rcases j with j | ⟨i,q,hq,_⟩
 · simp [Value.ownBlock] at j
 simp at hq
theorem zgs {k:Nat} {S:St} {D:Doc} (h:Good k S D) (hk:k<=40) {ops:List Opr} (hks:∀ o∈ops,o.rg.key.size<=1099511627776) (hc:checkE ops=0) (hw:zba D ops=0) :
 (∀ i o,ops[i]?=some o->StepD (runD D (ops.take i)) o)/\(runD D ops).E.length<=1000000:=by
 have z:=(zch hc).1;have l:whenAll S ops=0:=(h.whenAll ops).trans hw
 have key:∀ i≤ ops.length,KSorted (runD D (ops.take i)).now/\(runD D (ops.take i)).now.length<=1000000/\(runD D (ops.take i)).E.length<=1000000/\(runD D (ops.take i)).A.length<=1000000/\∀ key,0<=(wasL (runD D (ops.take i)).now key).version/\(wasL (runD D (ops.take i)).now key).version<=1099511627776:=by
  intro i n;obtain ⟨j,t,w⟩:=h.runD (by omega) hc l hks i n;obtain ⟨⟨m,x⟩,_⟩:=h.runs (by omega) hc hks i n;generalize runD D (ops.take i)=q at *;generalize runR (D.rev+1) ⟨S,[],[]⟩ (ops.take i)=r at *;have f:KSorted (D.adds r.E).kvs:=(by rw [(Doc.adds_parts D r.E).2.1];exact h.cpl.ks);have s:i * (16 * k+17)<=16 * (16 * k+17):=Nat.mul_le_mul_right _ (by omega)
  have g:(D.adds r.E).events.length<=820000:=by
   have p:=m.ok.ev;rw [m.cpl.events] at p;omega
  have u:(D.adds r.E).kvs.length<=16 * k:=by
   rw [(Doc.adds_parts D r.E).2.1];have p:=h.size;rw [<-zfd h];unfold zan;exact Nat.le_trans (List.length_filterMap_le _ _) (by omega)
  have y:r.E.length<=820000:=by
   rw [(Doc.adds_parts D r.E).2.2,List.length_append] at g;omega
  refine ⟨by rw [j];exact Doc.at_sorted f _,?_,by rw [w];omega,by rw [t];omega,fun key=>?_⟩
  · rw [j,<-zim]
    have:=zil (D.adds r.E) (D.rev+1) (D.adds r.E).events.length;omega
  unfold wasL
  rw [j];have:=m.doc.ver_has f (D.rev+1) key;omega
 refine ⟨fun i o ho=>?_,?_⟩
 · have v:=(List.getElem?_eq_some_iff.1 ho).1
   obtain ⟨a,b,c,d,e⟩:=key i (by omega);exact ⟨a,b,c,d,e _,(zch hc).2.1 o (List.mem_of_getElem? ho)⟩
 have:=(key ops.length (Nat.le_refl _)).2.2.1
 rwa [List.take_length] at this
structure Txq where
 v:Value
 va:Value
 vb:Value
 cs:List Cmp
 la:List Opr
 lb:List Opr
def txnC (q:Txq):List Value:=[q.v,q.va,q.vb]
theorem zcr (q:Txq):(txnC q).length=3:=rfl
structure TxnsR (w:World) (v:Value) (Z:List Txq):Prop where
 sl:SlR w 3 txnC v Z
 cs:∀ (i:Nat) (q:Txq),Z[i]?=some q->SlR w 5 cmpC q.v q.cs
 la:∀ (i:Nat) (q:Txq),Z[i]?=some q->SlR w 10 opC q.va q.la
 lb:∀ (i:Nat) (q:Txq),Z[i]?=some q->SlR w 10 opC q.vb q.lb
def runT (S:St) (q:Txq):St:=if runE S q.cs q.la q.lb=0 then applyS S (branch S q.cs q.la q.lb) else S
def runDT (D:Doc) (q:Txq):Doc:=if runDE D q.cs q.la q.lb=0 then zdn D (branchD D q.cs q.la q.lb) else D
theorem Good.allCD {k:Nat} {S:St} {D:Doc} (h:Good k S D) (cs:List Cmp):allB S cs=Go.Proofs.YthljnnjpmdgkoaaGreat.allCD D cs:=by
 unfold allB Go.Proofs.YthljnnjpmdgkoaaGreat.allCD
 congr 1
 funext c
 exact h.holds c
theorem Good.branchD {k:Nat} {S:St} {D:Doc} (h:Good k S D) (cs:List Cmp) (la lb:List Opr):branch S cs la lb=Go.Proofs.YthljnnjpmdgkoaaGreat.branchD D cs la lb:=by
 unfold branch Go.Proofs.YthljnnjpmdgkoaaGreat.branchD;rw [h.allCD]
theorem zci {S:St} {cs:List Cmp} {la lb:List Opr} {n:Nat} (ha:∀ o∈la,o.rg.key.size<=n) (hb:∀ o∈lb,o.rg.key.size<=n):∀ o∈branch S cs la lb,o.rg.key.size<=n:=by
 unfold branch
 split <;> assumption
theorem ztd {S:St} {cs:List Cmp} {la lb:List Opr} {n:Nat} (ha:la.length<=n) (hb:lb.length<=n):(branch S cs la lb).length<=n:=by
 unfold branch
 split <;> assumption
theorem Good.runDE {k:Nat} {S:St} {D:Doc} (h:Good k S D) (hk:k<=70) {cs:List Cmp} {la lb:List Opr} (ha:∀ o∈la,o.rg.key.size<=1099511627776) (hb:∀ o∈lb,o.rg.key.size<=1099511627776) :
 runE S cs la lb=Go.Proofs.YthljnnjpmdgkoaaGreat.runDE D cs la lb:=by
 unfold runE Go.Proofs.YthljnnjpmdgkoaaGreat.runDE;rw [<-h.branchD,(h.applyDoc hk (zci ha hb)).1]
theorem ziy {S:St} {cs:List Cmp} {la lb:List Opr} (h:runE S cs la lb=0):applyE S (branch S cs la lb)=0:=by
 unfold runE at h
 split at h
 · rename_i h1;exact absurd h h1
 exact h
theorem Good.runT {k:Nat} {S:St} {D:Doc} (h:Good k S D) (hk:k<=70) {q:Txq} (ha:∀ o∈q.la,o.rg.key.size<=1099511627776) (hb:∀ o∈q.lb,o.rg.key.size<=1099511627776) :
 Good (k+1) (Go.Proofs.YthljnnjpmdgkoaaGreat.runT S q) (runDT D q):=by
 unfold Go.Proofs.YthljnnjpmdgkoaaGreat.runT runDT;rw [<-h.runDE hk ha hb,<-h.branchD];by_cases h0:runE S q.cs q.la q.lb=0
 · rw [if_pos h0,if_pos h0]
   have a:=ziy h0;rw [<-((h.applyDoc hk (zci ha hb)).2 a).2.2];exact h.apply hk (zbe a).1 (zci ha hb)
 rw [if_neg h0,if_neg h0]
 exact h.mono (by omega)
theorem Good.runAE {k:Nat} {S:St} {D:Doc} (h:Good k S D) (hk:k<=70) {cs:List Cmp} {la lb:List Opr} (ha:∀ o∈la,o.rg.key.size<=1099511627776) (hb:∀ o∈lb,o.rg.key.size<=1099511627776) (h0:runE S cs la lb=0) :
 (runR (S.rev+1) ⟨S,[],[]⟩ (branch S cs la lb)).A=(Go.Proofs.YthljnnjpmdgkoaaGreat.runD D (branch S cs la lb)).A/\(runR (S.rev+1) ⟨S,[],[]⟩ (branch S cs la lb)).E=(Go.Proofs.YthljnnjpmdgkoaaGreat.runD D (branch S cs la lb)).E:=by
 have:=(h.applyDoc hk (zci ha hb)).2 (ziy h0);exact ⟨this.1,this.2.1⟩
theorem Good.runLen {k:Nat} {S:St} {D:Doc} (h:Good k S D) (hk:k<=40) {cs:List Cmp} {la lb:List Opr} (ha:∀ o∈la,o.rg.key.size<=1099511627776) (hb:∀ o∈lb,o.rg.key.size<=1099511627776) (hla:la.length<=30) (hlb:lb.length<=30) :
 (if runE S cs la lb=0 then (runR (S.rev+1) ⟨S,[],[]⟩ (branch S cs la lb)).A else []).length<=1000000/\(if runE S cs la lb=0 then (runR (S.rev+1) ⟨S,[],[]⟩ (branch S cs la lb)).E else []).length<=1000000:=by
 have f:(branch S cs la lb).length<=30:=ztd hla hlb;by_cases h0:runE S cs la lb=0
 · rw [if_pos h0,if_pos h0]
   have e:=ziy h0;obtain ⟨c,d⟩:=zbe e;refine ⟨?_,?_⟩
   · have a:=h.rev
     obtain ⟨⟨_,b⟩,_⟩:=h.runs (by omega) c (zci ha hb) (branch S cs la lb).length (Nat.le_refl _);rw [List.take_length] at b;rw [a,b];omega
   rw [(h.runAE (by omega) ha hb h0).2]
   exact (zgs h hk (zci ha hb) c ((h.whenAll _).symm.trans d)).2
 rw [if_neg h0,if_neg h0]
 exact ⟨Nat.zero_le _,Nat.zero_le _⟩
theorem Good.runSame {k:Nat} {S:St} {D:Doc} (h:Good k S D) (hk:k<=70) {q:Txq} (ha:∀ o∈q.la,o.rg.key.size<=1099511627776) (hb:∀ o∈q.lb,o.rg.key.size<=1099511627776) (u1 u2:Value) (w:World) (e:Ending) (w':World) :
 zkb (Go.Proofs.YthljnnjpmdgkoaaGreat.runDE D q.cs q.la q.lb) D q.cs (Go.Proofs.YthljnnjpmdgkoaaGreat.branchD D q.cs q.la q.lb) u1 u2 w e w' =
  zfy (runE S q.cs q.la q.lb) (decide (runE S q.cs q.la q.lb=0)&&allB S q.cs) (if runE S q.cs q.la q.lb=0 then (runR (S.rev+1) ⟨S,[],[]⟩ (branch S q.cs q.la q.lb)).A else []) (if runE S q.cs q.la q.lb=0 then (runR (S.rev+1) ⟨S,[],[]⟩ (branch S q.cs q.la q.lb)).E else []) (runDT D q) D u1 u2 w e w':=by
 unfold zkb runDT;rw [<-h.runDE hk ha hb,<-h.branchD,<-h.allCD];by_cases h0:runE S q.cs q.la q.lb=0
 · obtain ⟨a1,a2⟩:=h.runAE hk ha hb h0
   rw [if_pos h0,if_pos h0,if_pos h0,if_pos h0,if_pos h0,a1,a2]
 simp only [if_neg h0]
theorem rb {a b:Bool} (h:a=b):Ending.returned (.bool a)=.returned (.bool b):=by rw [h]
set_option maxHeartbeats 8000000 in
theorem zhx (w:World) (x:Kv) (hx:x.key.size<=1099511627776) (rev:Int) (hr:rev<=1099511627777) :
 Calls Tryz.prog 69 #[kvV x,.int .i64 rev] w fun e w'=>e=.returned (.bool (mayB x rev))/\Fr No w w':=by
 have o:=H_ (fun W=>zcz W x.key hx);clear hx;obtain ⟨l,j,d,c,g,k⟩:=x
 have n:Hid (mayB ⟨l,j,d,c,g,k⟩ rev=if keyE l≠0\/1024<j.size\/k<0\/d<1\/c<d\/rev<c then false
  else if c=d then g==1 else decide (2<=g)&&decide (g<=c-d+1)):=H_ rfl
 dsimp only at o;unfold kvV;dsimp only;generalize H:keyE l=E at *;generalize mayB ⟨l,j,d,c,g,k⟩ rev=m at *;clear H;by_cases h1:E=0
 · subst h1
   by_cases h2:1024<j.size
   · have D:decide ((1024:Int)<(j.size:Int))=true:=decide_eq_true (by omega)
     have i:Hid (false=m):=H_ (by rw [n.out,if_pos (Or.inr (Or.inl h2))]);clear h2;go_enter Tryz.func69,Tryz.ntmps69
     go_wp2_with (go_at_call 124;refine (o.out _).mono ?_;rintro e w1 ⟨rfl,b⟩
                  have a:=b.heap (zad w (Obj.cells #[.string l,.string j,.int .i64 d,.int .i64 c,.int .i64 g,.int .i64 k] 99) _ rfl) id;have lb:=zaa a;have q:=cellAt a 1 rfl;have t:=cellAt a 2 rfl;have r:=cellAt a 3 rfl;have s:=cellAt a 4 rfl;have p:=cellAt a 5 rfl;clear a)
     go_ret;exact ⟨rb (i.out),(((Fr.refl No w).alloc _).trans0 b)⟩
   have D:decide ((1024:Int)<(j.size:Int))=false:=decide_eq_false (by omega)
   by_cases h3:k<0
   · have B:decide (k<0)=true:=decide_eq_true (by omega)
     have i:Hid (false=m):=H_ (by rw [n.out,if_pos (Or.inr (Or.inr (Or.inl h3)))]);clear h3;go_enter Tryz.func69,Tryz.ntmps69
     go_wp2_with (go_at_call 124;refine (o.out _).mono ?_;rintro e w1 ⟨rfl,b⟩
                  have a:=b.heap (zad w (Obj.cells #[.string l,.string j,.int .i64 d,.int .i64 c,.int .i64 g,.int .i64 k] 99) _ rfl) id;have lb:=zaa a;have q:=cellAt a 1 rfl;have t:=cellAt a 2 rfl;have r:=cellAt a 3 rfl;have s:=cellAt a 4 rfl;have p:=cellAt a 5 rfl;clear a)
     go_ret;exact ⟨rb (i.out),(((Fr.refl No w).alloc _).trans0 b)⟩
   have B:decide (k<0)=false:=decide_eq_false (by omega)
   by_cases h4:d<1
   · have y:decide (d<1)=true:=decide_eq_true (by omega)
     have i:Hid (false=m):=H_ (by rw [n.out,if_pos (Or.inr (Or.inr (Or.inr (Or.inl h4))))]);clear h4;go_enter Tryz.func69,Tryz.ntmps69
     go_wp2_with (go_at_call 124;refine (o.out _).mono ?_;rintro e w1 ⟨rfl,b⟩
                  have a:=b.heap (zad w (Obj.cells #[.string l,.string j,.int .i64 d,.int .i64 c,.int .i64 g,.int .i64 k] 99) _ rfl) id;have lb:=zaa a;have q:=cellAt a 1 rfl;have t:=cellAt a 2 rfl;have r:=cellAt a 3 rfl;have s:=cellAt a 4 rfl;have p:=cellAt a 5 rfl;clear a)
     go_ret;exact ⟨rb (i.out),(((Fr.refl No w).alloc _).trans0 b)⟩
   have y:decide (d<1)=false:=decide_eq_false (by omega)
   by_cases h5:c<d
   · have C:decide (c<d)=true:=decide_eq_true (by omega)
     have i:Hid (false=m):=H_ (by rw [n.out,if_pos (Or.inr (Or.inr (Or.inr (Or.inr (Or.inl h5)))))]);clear h5;go_enter Tryz.func69,Tryz.ntmps69
     go_wp2_with (go_at_call 124;refine (o.out _).mono ?_;rintro e w1 ⟨rfl,b⟩
                  have a:=b.heap (zad w (Obj.cells #[.string l,.string j,.int .i64 d,.int .i64 c,.int .i64 g,.int .i64 k] 99) _ rfl) id;have lb:=zaa a;have q:=cellAt a 1 rfl;have t:=cellAt a 2 rfl;have r:=cellAt a 3 rfl;have s:=cellAt a 4 rfl;have p:=cellAt a 5 rfl;clear a)
     go_ret;exact ⟨rb (i.out),(((Fr.refl No w).alloc _).trans0 b)⟩
   have C:decide (c<d)=false:=decide_eq_false (by omega)
   by_cases h6:rev<c
   · have A:decide (rev<c)=true:=decide_eq_true (by omega)
     have i:Hid (false=m):=H_ (by rw [n.out,if_pos (Or.inr (Or.inr (Or.inr (Or.inr (Or.inr (h6))))))]);clear h6;go_enter Tryz.func69,Tryz.ntmps69
     go_wp2_with (go_at_call 124;refine (o.out _).mono ?_;rintro e w1 ⟨rfl,b⟩
                  have a:=b.heap (zad w (Obj.cells #[.string l,.string j,.int .i64 d,.int .i64 c,.int .i64 g,.int .i64 k] 99) _ rfl) id;have lb:=zaa a;have q:=cellAt a 1 rfl;have t:=cellAt a 2 rfl;have r:=cellAt a 3 rfl;have s:=cellAt a 4 rfl;have p:=cellAt a 5 rfl;clear a)
     go_ret;exact ⟨rb (i.out),(((Fr.refl No w).alloc _).trans0 b)⟩
   have A:decide (rev<c)=false:=decide_eq_false (by omega)
   have f:=n.out;rw [if_neg (by rintro (h | h | h | h | h | h) <;> first | exact h rfl | omega)] at f;by_cases h7:c=d
   · rw [if_pos h7] at f
     have z:(c==d)=true:=beq_iff_eq.2 h7;have i:Hid ((g==1)=m):=H_ f.symm;clear f n h7;go_enter Tryz.func69,Tryz.ntmps69
     go_wp2_with (go_at_call 124;refine (o.out _).mono ?_;rintro e w1 ⟨rfl,b⟩
                  have a:=b.heap (zad w (Obj.cells #[.string l,.string j,.int .i64 d,.int .i64 c,.int .i64 g,.int .i64 k] 99) _ rfl) id;have lb:=zaa a;have q:=cellAt a 1 rfl;have t:=cellAt a 2 rfl;have r:=cellAt a 3 rfl;have s:=cellAt a 4 rfl;have p:=cellAt a 5 rfl;clear a)
     go_ret;exact ⟨rb (i.out),(((Fr.refl No w).alloc _).trans0 b)⟩
   rw [if_neg h7] at f
   have z:(c==d)=false:=beq_eq_false_iff_ne.2 h7;by_cases h8:2<=g
   · have u:decide (2<=g)=true:=decide_eq_true h8
     have v:decide (g ≥ 2)=true:=decide_eq_true h8;rw [u,Bool.true_and] at f;have i:Hid (decide (g<=c-d+1)=m):=H_ f.symm;clear f n;have J:0<=c-d:=(by omega);have I:c-d<=1099511627777:=(by omega);go_enter Tryz.func69,Tryz.ntmps69
     go_wp2_with (go_at_call 124;refine (o.out _).mono ?_;rintro e w1 ⟨rfl,b⟩
                  have a:=b.heap (zad w (Obj.cells #[.string l,.string j,.int .i64 d,.int .i64 c,.int .i64 g,.int .i64 k] 99) _ rfl) id;have lb:=zaa a;have q:=cellAt a 1 rfl;have t:=cellAt a 2 rfl;have r:=cellAt a 3 rfl;have s:=cellAt a 4 rfl;have p:=cellAt a 5 rfl;clear a)
     go_ret;exact ⟨rb (i.out),(((Fr.refl No w).alloc _).trans0 b)⟩
   have u:decide (2<=g)=false:=decide_eq_false h8
   have v:decide (g ≥ 2)=false:=decide_eq_false h8;rw [u,Bool.false_and] at f;have i:Hid (false=m):=H_ f.symm;clear f n;go_enter Tryz.func69,Tryz.ntmps69
   go_wp2_with (go_at_call 124;refine (o.out _).mono ?_;rintro e w1 ⟨rfl,b⟩
                have a:=b.heap (zad w (Obj.cells #[.string l,.string j,.int .i64 d,.int .i64 c,.int .i64 g,.int .i64 k] 99) _ rfl) id;have lb:=zaa a;have q:=cellAt a 1 rfl;have t:=cellAt a 2 rfl;have r:=cellAt a 3 rfl;have s:=cellAt a 4 rfl;have p:=cellAt a 5 rfl;clear a)
   go_ret;exact ⟨rb (i.out),(((Fr.refl No w).alloc _).trans0 b)⟩
 have G:(E != 0)=true:=by rw [bne_iff_ne];exact h1
 have F:(E==0)=false:=beq_eq_false_iff_ne.2 h1;have i:Hid (false=m):=H_ (by rw [n.out,if_pos (.inl h1)]);clear h1 n;go_enter Tryz.func69,Tryz.ntmps69
 go_wp2_with (go_at_call 124;refine (o.out _).mono ?_;rintro e w1 ⟨rfl,b⟩
              have a:=b.heap (zad w (Obj.cells #[.string l,.string j,.int .i64 d,.int .i64 c,.int .i64 g,.int .i64 k] 99) _ rfl) id;have lb:=zaa a;have q:=cellAt a 1 rfl;have t:=cellAt a 2 rfl;have r:=cellAt a 3 rfl;have s:=cellAt a 4 rfl;have p:=cellAt a 5 rfl;clear a)
 go_ret;exact ⟨rb (i.out),(((Fr.refl No w).alloc _).trans0 b)⟩
end Go.Proofs.YthljnnjpmdgkoaaGreat