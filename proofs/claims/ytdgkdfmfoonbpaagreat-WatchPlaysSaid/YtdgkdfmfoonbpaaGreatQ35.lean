/- Own lemmas. -/
import Derived.Test.YtdgkdfmfoonbpaaGreatQ34
namespace Go.Proofs.YtdgkdfmfoonbpaaGreat
open Go Go.Proofs Go.RowKit
set_option maxRecDepth 100000
set_option maxHeartbeats 16000000
theorem zij (w:World) (x:Ev) (v:Value) (L:List Kv) (hv:SlR w 6 kvC v L) (hl:L.length<=1099511627) (hx:x.kv.key.size<=1099511627776) (hp:x.prev.key.size<=1099511627776) (mark:Int) (hm:0<=mark/\mark<=1099511627776) (hmt:zem x L mark=true) :
 Calls Tryz.prog 65 #[evV x,v,.int .i64 mark] w fun e w'=>e=.returned (.bool (zem x L mark))/\Fr No w w':=by
 have hH:=fun W (hW:Fr No w W)=>zhg W v L (hv.fr0 hW) hl x.kv.key;have hA:=fun W=>zhf W x.prev hp (mark-1) (by omega)
 have aQ:madeB x x.prev mark=true:=by
  cases h:madeB x x.prev mark with
  | true=>rfl
  | false=>rw [zem,if_pos (.inr h)] at hmt;cases hmt
 have hM:=fun W=>zgo W x x.prev hx mark aQ;clear aQ
 have HM:Hid (zem x L mark=if (sameB x.prev kv0=false/\(keq x.prev.key x.kv.key=false\/mayB x.prev (mark-1)=false))\/madeB x x.prev mark=false then false
  else if x.kind=1 then sameB ((hasL L x.kv.key).getD kv0) x.kv else ((hasL L x.kv.key).getD kv0).version==0):=H_ rfl
 generalize bu:(hasL L x.kv.key).getD kv0=nw at *;generalize zem x L mark=m at *;generalize bs:mayB x.prev (mark-1)=ma at *;generalize bt:madeB x x.prev mark=md at *;have aO:=fun W=>zch W x.prev ⟨⟨#[]⟩,⟨#[]⟩,0,0,0,0⟩;have aP:=fun W=>zch W nw x.kv;have c4:0<=mark:=hm.1;have c5:mark<=1099511627776:=hm.2;have HT:=H_ hmt;clear hv hl hx hp bu bs bt hm hmt;obtain ⟨kd,⟨p1,p2,p3,p4,p5,p6⟩,⟨q1,q2,q3,q4,q5,q6⟩⟩:=x;obtain ⟨n1,n2,n3,n4,n5,n6⟩:=nw;rw [show kv0=⟨⟨#[]⟩,⟨#[]⟩,0,0,0,0⟩ from rfl] at HM;unfold evV at hM;unfold kvV at hH hA hM aO aP;dsimp only at hH hA hM aO aP HM;generalize bv:sameB ⟨q1,q2,q3,q4,q5,q6⟩ ⟨⟨#[]⟩,⟨#[]⟩,0,0,0,0⟩=s1 at *;generalize bw:sameB ⟨n1,n2,n3,n4,n5,n6⟩ ⟨p1,p2,p3,p4,p5,p6⟩=s2 at *;have HH:=H_ hH;have HA:=H_ hA;have HD:=H_ hM
 have aN:=H_ aO;have b3:=H_ aP;unfold evV;dsimp only;clear hH hA hM aO aP bv bw;have b5:=zad w (Obj.cells #[.int .i64 kd,.string p1,.string p2,.int .i64 p3,.int .i64 p4,.int .i64 p5,.int .i64 p6,.string q1,.string q2,.int .i64 q3,.int .i64 q4,.int .i64 q5,.int .i64 q6] 72) _ rfl;have b7:Fr No w (w.alloc (Obj.cells #[.int .i64 kd,.string p1,.string p2,.int .i64 p3,.int .i64 p4,.int .i64 p5,.int .i64 p6,.string q1,.string q2,.int .i64 q3,.int .i64 q4,.int .i64 q5,.int .i64 q6] 72)):=(Fr.refl No w).alloc _;have a:=H_ b5;have an:=H_ b7;clear b5 b7
 cases s1 with
 | true =>
   cases md with
   | false =>
     have HW:Hid (false=m):=H_ (by rw [HM.out,if_pos (.inr rfl)]);clear HM;cases HW.out.trans HT.out
   | true =>
     have b:=HM.out;rw [if_neg (by rintro (⟨h,_⟩ | h) <;> cases h)] at b;clear HM;by_cases hk:kd=1
     · subst hk
       rw [if_pos rfl] at b;have HW:=H_ b;clear b;go_enter Tryz.func65,Tryz.ntmps65
       go_wp2_with (go_at_call 67;with_reducible refine (HH.out _ an.out).mono ?_;rintro e w1 ⟨rfl,a2⟩
                    have k:=a2.heap a.out id;have aV:=zab k;obtain ⟨u,y,z,A,B,C,D,E,F,G,c,d,f⟩:=cells13 k;clear k)
       go_wp2_with (go_at_call 51;with_reducible refine (aN.out _).mono ?_;rintro e w2 ⟨rfl,a0⟩
                    have a3:=(a2.alloc _).trans0 a0;have o:=a0.heap (zad w1 (Obj.cells #[.string n1,.string n2,.int .i64 n3,.int .i64 n4,.int .i64 n5,.int .i64 n6] 70) _ rfl) id;clear u y z A B C D E F G c d f;have l:=a3.heap a.out id;have aW:=zab l;obtain ⟨H,I,J,K,M,N,O,P,Q,R,g,i,j⟩:=cells13 l;have aY:=zab o;obtain ⟨S,T,U,V,X,Y⟩:=cells6 o;clear l)
       go_wp2_with (go_at_call 66;with_reducible refine (HD.out _).mono ?_;rintro e w3 ⟨rfl,a1⟩
                    have a4:=a3.trans0 a1;have q:=a1.heap o id;clear H I J K M N O P Q R g i j S T U V X Y;have n:=a4.heap a.out id;have aX:=zab n;obtain ⟨a5,a6,a7,a8,a9,aa,ab,ad,ae,af,r,s,t⟩:=cells13 n;have aZ:=zab q;obtain ⟨ag,ah,ai,aj,ak,al⟩:=cells6 q;clear n)
       go_wp2_with (go_at_call 51;with_reducible refine (b3.out _).mono ?_;rintro e w4 ⟨rfl,ao⟩
                    have ap:=a4.trans0 ao;have am:=ao.heap q id;clear a5 a6 a7 a8 a9 aa ab ad ae af r s t ag ah ai aj ak al;have Z:=ap.heap a.out id;have ba:=zab Z;obtain ⟨ax,ay,az,aA,aB,aC,aD,aE,aF,aG,ar,au,av⟩:=cells13 Z;have bb:=zab am;obtain ⟨aH,aI,aJ,aK,aL,aM⟩:=cells6 am;clear Z)
       go_ret;exact ⟨rb (HW.out.symm),an.out.trans0 ap⟩
     have bq:(kd==1)=false:=beq_eq_false_iff_ne.2 hk
     rw [if_neg hk] at b;have HW:=H_ b;clear b hk;go_enter Tryz.func65,Tryz.ntmps65
     go_wp2_with (go_at_call 67;with_reducible refine (HH.out _ an.out).mono ?_;rintro e w1 ⟨rfl,a2⟩
                  have k:=a2.heap a.out id;have aV:=zab k;obtain ⟨u,y,z,A,B,C,D,E,F,G,c,d,f⟩:=cells13 k;clear k)
     go_wp2_with (go_at_call 51;with_reducible refine (aN.out _).mono ?_;rintro e w2 ⟨rfl,a0⟩
                  have a3:=(a2.alloc _).trans0 a0;have o:=a0.heap (zad w1 (Obj.cells #[.string n1,.string n2,.int .i64 n3,.int .i64 n4,.int .i64 n5,.int .i64 n6] 70) _ rfl) id;clear u y z A B C D E F G c d f;have l:=a3.heap a.out id;have aW:=zab l;obtain ⟨H,I,J,K,M,N,O,P,Q,R,g,i,j⟩:=cells13 l;have aY:=zab o;obtain ⟨S,T,U,V,X,Y⟩:=cells6 o;clear l)
     go_wp2_with (go_at_call 66;with_reducible refine (HD.out _).mono ?_;rintro e w3 ⟨rfl,a1⟩
                  have a4:=a3.trans0 a1;have q:=a1.heap o id;clear H I J K M N O P Q R g i j S T U V X Y;have n:=a4.heap a.out id;have aX:=zab n;obtain ⟨a5,a6,a7,a8,a9,aa,ab,ad,ae,af,r,s,t⟩:=cells13 n;have aZ:=zab q;obtain ⟨ag,ah,ai,aj,ak,al⟩:=cells6 q;clear n)
     go_ret;exact ⟨rb (HW.out.symm),an.out.trans0 a4⟩
 | false =>
   cases hkk:keq q1 p1 with
   | false =>
     have aU:(q1.toList==p1.toList)=false:=hkk;have br:(q1.toList != p1.toList)=true:=(by unfold bne;rw [aU];rfl);have HW:Hid (false=m):=H_ (by rw [HM.out,if_pos (.inl ⟨rfl,.inl hkk⟩)]);clear HM hkk;cases HW.out.trans HT.out
   | true =>
     have aU:(q1.toList==p1.toList)=true:=hkk;have br:(q1.toList != p1.toList)=false:=(by unfold bne;rw [aU];rfl)
     cases ma with
     | false =>
       have HW:Hid (false=m):=H_ (by rw [HM.out,if_pos (.inl ⟨rfl,.inr rfl⟩)]);clear HM hkk;cases HW.out.trans HT.out
     | true =>
       cases md with
       | false =>
         have HW:Hid (false=m):=H_ (by rw [HM.out,if_pos (.inr rfl)]);clear HM hkk;cases HW.out.trans HT.out
       | true =>
         have b:=HM.out;rw [if_neg (by rintro (⟨_,h | h⟩ | h) <;> first | (rw [hkk] at h;cases h) | cases h)] at b;clear HM hkk;by_cases hk:kd=1
         · subst hk
           rw [if_pos rfl] at b;have HW:=H_ b;clear b;go_enter Tryz.func65,Tryz.ntmps65
           go_wp2_with (go_at_call 67;with_reducible refine (HH.out _ an.out).mono ?_;rintro e w1 ⟨rfl,a2⟩
                        have k:=a2.heap a.out id;have aV:=zab k;obtain ⟨u,y,z,A,B,C,D,E,F,G,c,d,f⟩:=cells13 k;clear k)
           go_wp2_with (go_at_call 51;with_reducible refine (aN.out _).mono ?_;rintro e w2 ⟨rfl,a0⟩
                        have a3:=(a2.alloc _).trans0 a0;have o:=a0.heap (zad w1 (Obj.cells #[.string n1,.string n2,.int .i64 n3,.int .i64 n4,.int .i64 n5,.int .i64 n6] 70) _ rfl) id;clear u y z A B C D E F G c d f;have l:=a3.heap a.out id;have aW:=zab l;obtain ⟨H,I,J,K,M,N,O,P,Q,R,g,i,j⟩:=cells13 l;have aY:=zab o;obtain ⟨S,T,U,V,X,Y⟩:=cells6 o;clear l)
           go_wp2_with (go_at_call 64;with_reducible refine (HA.out _).mono ?_;rintro e w3 ⟨rfl,a1⟩
                        have a4:=a3.trans0 a1;have q:=a1.heap o id;clear H I J K M N O P Q R g i j S T U V X Y;have n:=a4.heap a.out id;have aX:=zab n;obtain ⟨a5,a6,a7,a8,a9,aa,ab,ad,ae,af,r,s,t⟩:=cells13 n;have aZ:=zab q;obtain ⟨ag,ah,ai,aj,ak,al⟩:=cells6 q;clear n)
           go_wp2_with (go_at_call 66;with_reducible refine (HD.out _).mono ?_;rintro e w4 ⟨rfl,ao⟩
                        have ap:=a4.trans0 ao;have am:=ao.heap q id;clear a5 a6 a7 a8 a9 aa ab ad ae af r s t ag ah ai aj ak al;have Z:=ap.heap a.out id;have ba:=zab Z;obtain ⟨ax,ay,az,aA,aB,aC,aD,aE,aF,aG,ar,au,av⟩:=cells13 Z;have bb:=zab am;obtain ⟨aH,aI,aJ,aK,aL,aM⟩:=cells6 am;clear Z)
           go_wp2_with (go_at_call 51;with_reducible refine (b3.out _).mono ?_;rintro e w5 ⟨rfl,b8⟩
                        have b9:=ap.trans0 b8;have b6:=b8.heap am id;clear ax ay az aA aB aC aD aE aF aG ar au av aH aI aJ aK aL aM;have aT:=b9.heap a.out id;have c6:=zab aT;obtain ⟨bM,bN,bO,bP,bQ,bR,bS,bT,bU,bV,bn,bo,bp⟩:=cells13 aT;have c7:=zab b6;obtain ⟨bW,bX,bY,bZ,c0,c1⟩:=cells6 b6;clear aT)
           go_ret;exact ⟨rb (HW.out.symm),an.out.trans0 b9⟩
         have bq:(kd==1)=false:=beq_eq_false_iff_ne.2 hk
         rw [if_neg hk] at b;have HW:=H_ b;clear b hk;go_enter Tryz.func65,Tryz.ntmps65
         go_wp2_with (go_at_call 67;with_reducible refine (HH.out _ an.out).mono ?_;rintro e w1 ⟨rfl,a2⟩
                      have k:=a2.heap a.out id;have aV:=zab k;obtain ⟨u,y,z,A,B,C,D,E,F,G,c,d,f⟩:=cells13 k;clear k)
         go_wp2_with (go_at_call 51;with_reducible refine (aN.out _).mono ?_;rintro e w2 ⟨rfl,a0⟩
                      have a3:=(a2.alloc _).trans0 a0;have o:=a0.heap (zad w1 (Obj.cells #[.string n1,.string n2,.int .i64 n3,.int .i64 n4,.int .i64 n5,.int .i64 n6] 70) _ rfl) id;clear u y z A B C D E F G c d f;have l:=a3.heap a.out id;have aW:=zab l;obtain ⟨H,I,J,K,M,N,O,P,Q,R,g,i,j⟩:=cells13 l;have aY:=zab o;obtain ⟨S,T,U,V,X,Y⟩:=cells6 o;clear l)
         go_wp2_with (go_at_call 64;with_reducible refine (HA.out _).mono ?_;rintro e w3 ⟨rfl,a1⟩
                      have a4:=a3.trans0 a1;have q:=a1.heap o id;clear H I J K M N O P Q R g i j S T U V X Y;have n:=a4.heap a.out id;have aX:=zab n;obtain ⟨a5,a6,a7,a8,a9,aa,ab,ad,ae,af,r,s,t⟩:=cells13 n;have aZ:=zab q;obtain ⟨ag,ah,ai,aj,ak,al⟩:=cells6 q;clear n)
         go_wp2_with (go_at_call 66;with_reducible refine (HD.out _).mono ?_;rintro e w4 ⟨rfl,ao⟩
                      have ap:=a4.trans0 ao;have am:=ao.heap q id;clear a5 a6 a7 a8 a9 aa ab ad ae af r s t ag ah ai aj ak al;have Z:=ap.heap a.out id;have ba:=zab Z;obtain ⟨ax,ay,az,aA,aB,aC,aD,aE,aF,aG,ar,au,av⟩:=cells13 Z;have bb:=zab am;obtain ⟨aH,aI,aJ,aK,aL,aM⟩:=cells6 am;clear Z)
         go_ret;exact ⟨rb (HW.out.symm),an.out.trans0 ap⟩
theorem Calls.cls {P:Program} {f:FuncId} {args:Array Value} {B W:World} {v:Value} (h:Calls P f args W fun e w'=>e=.returned v/\Fr No W w') (hW:Fr No B W):Calls P f args W fun e w'=>e=.returned v/\Fr No B w':=h.mono fun _ _ h=>⟨h.1,hW.trans0 h.2⟩
def RightR (D:Doc) (w:World) (e:Ending) (w':World):Prop:=∃ b,e=.returned (.bool b)/\(b=true↔zbk D)/\Fr No w w'
theorem RightR.yes {D:Doc} {w w':World} {b:Bool} (h:b=true↔zbk D) (hf:Fr No w w'):RightR D w (.returned (.bool b)) w':=⟨b,rfl,h,hf⟩
theorem zjo (w:World) (D:Doc) (vk ve:Value) (hD:DocR w D vk ve) (hsm:DocSm D) (hok:zbk D) :
 Calls Tryz.prog 37 #[docV D vk ve] w (RightR D w):=by
 obtain ⟨ka,A,rfl,du,dv,bM⟩:=hD.kvs.shape;obtain ⟨ea,O,rfl,di,dj,bG⟩:=hD.evs.shape;have cS:=hsm.len;have bF:=zad w (Obj.cells #[.int .i64 D.rev,.int .i64 D.mark,.slice ka D.kvs.length A,.slice ea D.events.length O] 76) _ rfl;have ax:Fr No w (w.alloc (Obj.cells #[.int .i64 D.rev,.int .i64 D.mark,.slice ka D.kvs.length A,.slice ea D.events.length O] 76)):=(Fr.refl No w).alloc _;have HD:=H_ (hD.fr0 ax);have bz:=H_ hsm;have f:=H_ hok;have cm:=H_ bM;have cj:=H_ bG;have aQ:=H_ bF;have ck:=H_ ax;clear hD hsm hok bM bG bF ax;unfold docV;by_cases hm0:D.mark<0
 · have bR:decide (D.mark<0)=true:=dT_ hm0
   have q:Hid (¬ zbk D):=H_ (fun h=>by have:=h.m0;omega);exact absurd f.out q.out
 have bR:decide (D.mark<0)=false:=dF_ hm0
 by_cases hm1:D.rev<D.mark
 · have m:decide (D.mark > D.rev)=true:=dT_ hm1
   have q:Hid (¬ zbk D):=H_ (fun h=>by have:=h.mr;omega);exact absurd f.out q.out
 have m:decide (D.mark > D.rev)=false:=dF_ hm1
 by_cases hm2:1099511627776<D.rev
 · have bS:decide (D.rev > 1099511627776)=true:=dT_ hm2
   have q:Hid (¬ zbk D):=H_ (fun h=>by have:=h.top;omega);exact absurd f.out q.out
 have bS:decide (D.rev > 1099511627776)=false:=dF_ hm2
 go_enter Tryz.func37,Tryz.ntmps37;go_wp2;generalize w.alloc (Obj.cells #[.int .i64 D.rev,.int .i64 D.mark,.slice ka D.kvs.length A,.slice ea D.events.length O] 76)=W1 at *;have dz:w.heap.size<W1.heap.size:=zab aQ.out
 go_loopg [3,4] D.kvs.length (fun g s3 s4 wr=>∃ i:Nat,s3=.int .i64 (freshK D i:Int)/\s4=.int .i64 i/\i+g=D.kvs.length/\Hid (∀ j k,j<i->D.kvs[j]?=some k->KvOk D j k)/\Hid (Fr No W1 wr))
 case atStart=>exact ⟨0,rfl,rfl,by simp,H_ (fun j k h=>absurd h (Nat.not_lt_zero _)),H_ (Fr.refl No W1)⟩
 case round =>
  obtain ⟨i,rfl,rfl,hi,s,B⟩:=hrel;have dm:=zwu D i;have hb:=B.out.heap aQ.out id;have lb:=zab hb;obtain ⟨b0,b1,b2,b3⟩:=cells4 hb
  cases gk with
  | zero =>
    have b9:¬ (i:Int)<(D.kvs.length:Int):=(by omega);have b8:i=D.kvs.length:=(by omega);subst b8;have bO:KSorted D.kvs:=zkm fun i k k' hi hk hk'=>(s.out i k (gS_ hk).1 hk).up k' hi hk';have cn:=H_ bO;have bu:Hid (∀ j k,D.kvs[j]?=some k->KvOk D j k):=H_ fun j k hk=>s.out j k (gS_ hk).1 hk;obtain ⟨E,aJ⟩:∃ E:Int,max D.mark 1=E:=⟨_,rfl⟩;have a0:=H_ aJ;have ax:1<=E:=(by omega);have dk:E<=1099511627776:=(by omega);have bW:revAt D 0=E-1:=(by unfold revAt;rw [if_pos rfl,aJ]);have aW:=H_ bW;have bD:SlR wr 6 kvC (.slice ka D.kvs.length A) (foldTo D 0):=(by rw [zpq];exact HD.out.kvs.fr0 B.out);have bt:=H_ bD;clear bO bW bD hb s;generalize aI:freshK D D.kvs.length=fk at *;have aD:=H_ aI
    clear aI;go_wp2
    go_loopg [3,6,7,8] D.events.length (fun g s3 s6 s7 s8 wr=>∃ (i:Nat) (o:Value),s3=.int .i64 ((fk:Int)-(freshE D i:Int))/\s6=.int .i64 (revAt D i)/\s7=o/\s8=.int .i64 i/\i+g=D.events.length/\0<=revAt D i/\revAt D i<=1099511627776+(i:Int)/\Hid (∀ j x,j<i->D.events[j]?=some x->EvOk D j x)/\Hid (SlR wr 6 kvC o (foldTo D i))/\Hid (Fr No W1 wr))
    case atStart =>
     have hz:freshE D 0=0:=rfl;exact ⟨0,_,by rw [hz];go_num,by rw [aW.out],rfl,rfl,by simp,by rw [aW.out];omega,by rw [aW.out];omega,H_ (fun j x h=>absurd h (Nat.not_lt_zero _)),bt,B⟩
    case round =>
     clear b0 b1 b2 b3 lb B bt;obtain ⟨i,o,rfl,rfl,rfl,rfl,hi,cU,cV,s,HO,B⟩:=hrel;have dl:=zwv D i;have hb:=B.out.heap aQ.out id;have lb:=zab hb;obtain ⟨b0,b1,b2,b3⟩:=cells4 hb
     cases gk with
     | zero =>
       have b9:¬ (i:Int)<(D.events.length:Int):=(by omega);have b8:i=D.events.length:=(by omega);subst b8;have bo:Hid (∀ j x,D.events[j]?=some x->EvOk D j x):=H_ fun j x b=>s.out j x (gS_ b).1 b;clear hb s HO;generalize aH:freshE D D.events.length=fe at *;generalize aO:revAt D D.events.length=Y at *;have aC:=H_ aH;have aE:=H_ aO;clear aH aO;by_cases hl:Y=D.rev
       · have cx:(Y==D.rev)=true:=beq_iff_eq.2 hl
         have bv:Hid ((((fk:Int)-(fe:Int))==0)=true↔zbk D):=H_ (by
          rw [beq_iff_eq]
          constructor
          · intro h
            exact ⟨by omega,by omega,by omega,bu.out,bo.out,by rw [aE.out];exact hl,by rw [aD.out,aC.out];omega⟩
          intro h
          have:=h.fresh;rw [aD.out,aC.out] at this;omega)
         clear hl;go_wp2;go_ret;exact RightR.yes bv.out (ck.out.trans0 B.out)
       have cx:(Y==D.rev)=false:=beq_eq_false_iff_ne.2 hl
       have q:Hid (¬ zbk D):=H_ (fun h=>hl (by rw [<-aE.out];exact h.last));exact absurd f.out q.out
     | succ g =>
       have b9:(i:Int)<(D.events.length:Int):=(by omega);obtain ⟨x,b⟩:∃ x,D.events[i]?=some x:=⟨_,gG_ (by omega)⟩;obtain ⟨X,go,rfl⟩:=cj.out (by omega);have n:=HD.out.evs.fr0 B.out;have x0:=n.cell0 zaa i b rfl;have x1:=n.cell zaa i 1 b rfl;have x2:=n.cell zaa i 2 b rfl;have x3:=n.cell zaa i 3 b rfl;have x4:=n.cell zaa i 4 b rfl;have x5:=n.cell zaa i 5 b rfl;have x6:=n.cell zaa i 6 b rfl;have x7:=n.cell zaa i 7 b rfl;have x8:=n.cell zaa i 8 b rfl;have x9:=n.cell zaa i 9 b rfl;have cc:=n.cell zaa i 10 b rfl;have cd:=n.cell zaa i 11 b rfl;have ce:=n.cell zaa i 12 b rfl;have lf:=gB_ _ _ x0;have aA:=bz.out.evs x (gM_ b);have bY:=zjz b;have bI:=zpr b;have bH:=zps b;have dn:=ztf D i
       have bJ:=zli cn.out i;have aG:=zpp D b;have aN:=fun (h:zbk D)=>h.evs i x b;have bw:=HO.out;obtain ⟨o1,o2,rfl,dw,dx,_⟩:=bw.shape;clear bw;have P:=fun (hmm:x.kv.mod=D.mark) W (hW:Fr No wr W)=>zij W x (.slice ka D.kvs.length A) D.kvs (HD.out.kvs.fr0 (B.out.trans0 hW)) (by omega) aA.1 aA.2 D.mark ⟨by omega,by omega⟩ ((f.out.evs i x b).mkd hmm);have Q:=fun W (hW:Fr No wr W)=>zhg W _ _ (HO.out.fr0 hW) (by omega) x.kv.key;have I:=fun (hmm:x.kv.mod≠D.mark) W=>zgo W x ((hasL (foldTo D i) x.kv.key).getD kv0) aA.1 x.kv.mod ((f.out.evs i x b).md hmm);have J:=fun W (hW:Fr No wr W)=>zks W _ _ (HO.out.fr0 hW) (by omega) x;rw [zzj bJ] at J;have V:=H_ b;have bx:=H_ bY;have br:=H_ bI;have bq:=H_ bH;have N:=H_ aG;have r:=H_ aN
       generalize aM:zem x D.kvs D.mark=mk at *;generalize bV:(hasL (foldTo D i) x.kv.key).getD kv0=nw at *;generalize aL:madeB x nw x.kv.mod=md at *;have aU:=H_ aM;have aV:=H_ bV;have aT:=H_ aL;unfold evV at P I J;unfold kvV at I Q;clear b bY bI bH aG aN n aA bJ aM bV aL;obtain ⟨U,⟨F,p2,p3,c,p5,p6⟩,⟨q1,q2,q3,q4,q5,q6⟩⟩:=x;obtain ⟨n1,n2,n3,n4,n5,n6⟩:=nw;dsimp only at x0 x1 x2 x3 x4 x5 x6 x7 x8 x9 cc cd ce P I Q J bx br bq N r aU aV aT;have bj:=H_ P;have bk:=H_ I;have bl:=H_ Q;have bm:=H_ J;clear P I Q J;generalize bX:revAt D i=Y at *;have an:=H_ bX;clear bX;go_upto_region 18 with fail
       have bE:Fr No wr (wr.alloc (Obj.cells #[.int .i64 U,.string F,.string p2,.int .i64 p3,.int .i64 c,.int .i64 p5,.int .i64 p6,.string q1,.string q2,.int .i64 q3,.int .i64 q4,.int .i64 q5,.int .i64 q6] 72)):=(Fr.refl No wr).alloc _;have az:=zad wr (Obj.cells #[.int .i64 U,.string F,.string p2,.int .i64 p3,.int .i64 c,.int .i64 p5,.int .i64 p6,.string q1,.string q2,.int .i64 q3,.int .i64 q4,.int .i64 q5,.int .i64 q6] 72) _ rfl;have av:=zar hb (Obj.cells #[.int .i64 U,.string F,.string p2,.int .i64 p3,.int .i64 c,.int .i64 p5,.int .i64 p6,.string q1,.string q2,.int .i64 q3,.int .i64 q4,.int .i64 q5,.int .i64 q6] 72)
       generalize ca:wr.alloc (Obj.cells #[.int .i64 U,.string F,.string p2,.int .i64 p3,.int .i64 c,.int .i64 p5,.int .i64 p6,.string q1,.string q2,.int .i64 q3,.int .i64 q4,.int .i64 q5,.int .i64 q6] 72)=W2 at *;generalize bU:wr.heap.size=T at *;obtain ⟨y0,y1,y2,y3,y4,y5,y6,y7,y8,y9,bd,be,bf⟩:=cells13 az;obtain ⟨z0,z1,z2,z3⟩:=cells4 av;have ly:=zab az;have lz:=zab av;have db:=H_ az;have da:=H_ av;have a3:=H_ bE;have dd:=H_ ca;have dc:=H_ bU;clear az av bE ca bU hb b0 b1 b2 b3 x0 x1 x2 x3 x4 x5 x6 x7 x8 x9 cc cd ce lf lb;by_cases hlo:c<E
       · have bQ:decide (c<E)=true:=dT_ hlo
         have q:Hid (¬ zbk D):=H_ (fun h=>by have v:=(r.out h).lo;rw [a0.out] at v;dsimp only at v;omega);exact absurd f.out q.out
       have bQ:decide (c<E)=false:=dF_ hlo
       by_cases hge:c<Y
       · have bK:decide (c<Y)=true:=dT_ hge
         have q:Hid (¬ zbk D):=H_ (fun h=>by have v:=(r.out h).ge;rw [an.out] at v;dsimp only at v;omega);exact absurd f.out q.out
       have bK:decide (c<Y)=false:=dF_ hge
       by_cases hle:Y+1<c
       · have bP:decide (c > Y+1)=true:=dT_ hle
         have q:Hid (¬ zbk D):=H_ (fun h=>by have v:=(r.out h).le;rw [an.out] at v;dsimp only at v;omega);exact absurd f.out q.out
       have bP:decide (c > Y+1)=false:=dF_ hle
       go_upto_block 4 with fail
       go_cut [10] (fun _ wx=>Hid (∀ j y,j<i->D.events[j]?=some y->y.kv.mod=c->keq y.kv.key F=false)/\Hid (Fr No W2 wx))
       case first =>
        go_wp2_with fail
        go_loopg [10] i (fun g s10 wx=>∃ j:Nat,s10=.int .i64 j/\j+g=i/\Hid (∀ j' y,j'<j->D.events[j']?=some y->y.kv.mod=c->keq y.kv.key F=false)/\Hid (Fr No W2 wx))
        case atStart=>exact ⟨0,rfl,by simp,H_ (fun j' y h=>absurd h (Nat.not_lt_zero _)),H_ (Fr.refl No W2)⟩
        case round =>
         obtain ⟨j,rfl,hj,HU,t⟩:=hrel
         cases gk with
         | zero =>
           have bL:¬ (j:Int)<(i:Int):=(by omega);have cw:j=i:=(by omega);subst cw;go_wp2;go_meet
           case rel=>exact ⟨HU,t⟩
         | succ g' =>
           have bL:(j:Int)<(i:Int):=(by omega);obtain ⟨z,hz⟩:∃ z,D.events[j]?=some z:=⟨_,gG_ (by omega)⟩;have dt:(j:Int)<(D.events.length:Int):=(by omega)
           have a2:Hid (∀ W,Fr No W2 W->W.cell? ⟨w.heap.size,3,none⟩=some (.slice (some ⟨X,go,none⟩) D.events.length O)/\W.cell? ⟨X,go+j * 13+1,none⟩=some (.string z.kv.key)/\W.cell? ⟨X,go+j * 13+4,none⟩=some (.int .i64 z.kv.mod)/\W.cell? ⟨T,1,none⟩=some (.string F)):=H_ (fun W hW=>by
            have hh:=HD.out.evs.fr0 (B.out.trans0 (a3.out.trans0 hW));exact ⟨hW.cell0 z3,hh.cell zaa j 1 hz rfl,hh.cell zaa j 4 hz rfl,hW.cell0 y1⟩)
           have HZ:=H_ hz;clear hz;by_cases hme:z.kv.mod=c
           · have bT:(z.kv.mod==c)=true:=beq_iff_eq.2 hme
             cases hke:keq z.kv.key F with
             | true =>
               have bN:(z.kv.key.toList==F.toList)=true:=hke;have q:Hid (¬ zbk D):=H_ (fun h=>by have v:=(r.out h).one j z (by omega) HZ.out hme;dsimp only at v;rw [hke] at v;cases v);exact absurd f.out q.out
             | false =>
               have bN:(z.kv.key.toList==F.toList)=false:=hke
               have aX:Hid (∀ j' y,j'<j+1->D.events[j']?=some y->y.kv.mod=c->keq y.kv.key F=false):=H_ (fun j' y h hy hm=>by
                rcases Nat.lt_or_ge j' j with h2 | h2
                · exact HU.out j' y h2 hy hm
                have e:j'=j:=(by omega)
                subst e;rw [HZ.out] at hy;cases hy
                exact hke)
               clear hme hke;go_upto_region 24 with fail;refine zak (C:=fun W=>Fr No W2 W) (by kernel_rfl) (by kernel_rfl) (t.out.drew) ?_
               repeat (refine (wpQuiet_step (fun K hK=>?_):_)
                       go_simp
                       first
                        | (refine hK _ ?_;clear hK K)
                        | (apply Exists.intro
                           refine ⟨fun W hW=>?_,hK _ ?_⟩
                           (first
                             | exact rfl
                             | (obtain ⟨c1,c2,c3,c4⟩:=a2.out W hW;go_simp;exact rfl)
                           )
                           clear hK K))
               refine (wpQuiet_nil ?_:_);intro w9 a;go_wp2;go_roundg g'
               case rel=>exact ⟨j+1,by go_num,by omega,aX,H_ a⟩
               case measure=>omega
           have bT:(z.kv.mod==c)=false:=beq_eq_false_iff_ne.2 hme
           have aX:Hid (∀ j' y,j'<j+1->D.events[j']?=some y->y.kv.mod=c->keq y.kv.key F=false):=H_ (fun j' y h hy hm=>by
            rcases Nat.lt_or_ge j' j with h2 | h2
            · exact HU.out j' y h2 hy hm
            have e:j'=j:=(by omega)
            subst e;rw [HZ.out] at hy;cases hy
            exact absurd hm hme)
           clear hme;go_upto_region 24 with fail;refine zak (C:=fun W=>Fr No W2 W) (by kernel_rfl) (by kernel_rfl) (t.out.drew) ?_
           repeat (refine (wpQuiet_step (fun K hK=>?_):_)
                   go_simp
                   first
                    | (refine hK _ ?_;clear hK K)
                    | (apply Exists.intro
                       refine ⟨fun W hW=>?_,hK _ ?_⟩
                       (first
                         | exact rfl
                         | (obtain ⟨c1,c2,c3,c4⟩:=a2.out W hW;go_simp;exact rfl)
                       )
                       clear hK K))
           refine (wpQuiet_nil ?_:_);intro w9 a;go_wp2;go_roundg g'
           case rel=>exact ⟨j+1,by go_num,by omega,aX,H_ a⟩
           case measure=>omega
       case rest =>
        obtain ⟨HU,t⟩:=hcut;have am:=H_ (a3.out.trans0 t.out);have v0:=t.out.cell0 y0;have v1:=t.out.cell0 y1;have v2:=t.out.cell0 y2;have v3:=t.out.cell0 y3;have v4:=t.out.cell0 y4;have v5:=t.out.cell0 y5;have v6:=t.out.cell0 y6;have v7:=t.out.cell0 y7;have v8:=t.out.cell0 y8;have v9:=t.out.cell0 y9;have cz:=t.out.cell0 bd;have cA:=t.out.cell0 be;have cB:=t.out.cell0 bf;have u0:=t.out.cell0 z0;have u1:=t.out.cell0 z1;have u2:=t.out.cell0 z2;have u3:=t.out.cell0 z3;have lv:=gB_ _ _ v0;have lu:=gB_ _ _ u0
        have a2:Hid (∀ W,Fr No W2 W->W.cell? ⟨T,0,none⟩=some (.int .i64 U)/\W.cell? ⟨T,1,none⟩=some (.string F)/\W.cell? ⟨T,2,none⟩=some (.string p2)/\W.cell? ⟨T,3,none⟩=some (.int .i64 p3)/\W.cell? ⟨T,4,none⟩=some (.int .i64 c)/\W.cell? ⟨T,5,none⟩=some (.int .i64 p5)/\W.cell? ⟨T,6,none⟩=some (.int .i64 p6)/\W.cell? ⟨T,7,none⟩=some (.string q1)/\W.cell? ⟨T,8,none⟩=some (.string q2)/\W.cell? ⟨T,9,none⟩=some (.int .i64 q3)/\W.cell? ⟨T,10,none⟩=some (.int .i64 q4)/\W.cell? ⟨T,11,none⟩=some (.int .i64 q5)/\W.cell? ⟨T,12,none⟩=some (.int .i64 q6)):=H_ (fun W hW=>⟨hW.cell0 y0,hW.cell0 y1,hW.cell0 y2,hW.cell0 y3,hW.cell0 y4,hW.cell0 y5,hW.cell0 y6,hW.cell0 y7,hW.cell0 y8,hW.cell0 y9,hW.cell0 bd,hW.cell0 be,hW.cell0 bf⟩)
        clear y0 y1 y2 y3 y4 y5 y6 y7 y8 y9 bd be bf z0 z1 z2 z3 ly lz
        have a1:Hid (EvOk D i ⟨U,⟨F,p2,p3,c,p5,p6⟩,⟨q1,q2,q3,q4,q5,q6⟩⟩->∀ j x,j<i+1->D.events[j]?=some x->EvOk D j x):=H_ (fun he j x hj b=>by
         rcases Nat.lt_or_ge j i with h2 | h2
         · exact s.out j x h2 b
         have e:j=i:=(by omega)
         subst e;rw [V.out] at b;cases b
         exact he)
        have bn:Hid ((c=D.mark->zem ⟨U,⟨F,p2,p3,c,p5,p6⟩,⟨q1,q2,q3,q4,q5,q6⟩⟩ D.kvs D.mark=true)->(c≠D.mark->madeB ⟨U,⟨F,p2,p3,c,p5,p6⟩,⟨q1,q2,q3,q4,q5,q6⟩⟩ ((hasL (foldTo D i) F).getD kv0) c=true)->EvOk D i ⟨U,⟨F,p2,p3,c,p5,p6⟩,⟨q1,q2,q3,q4,q5,q6⟩⟩):=H_ (fun v h2 =>
         ⟨by rw [a0.out];show E<=c;omega,by rw [an.out];show Y<=c;omega,by rw [an.out];show c<=Y+1;omega,fun j y hj hy hm=>HU.out j y hj hy hm,v,h2⟩)
        have a5:0<=c:=(by omega);have cT:c<=1099511627776+((i:Int)+1):=(by omega);have S:=bx.out;by_cases hmm:c=D.mark
        · have R:(c==D.mark)=true:=beq_iff_eq.2 hmm
          have al:Hid (foldTo D (i+1)=foldTo D i):=H_ (br.out (by show ¬ D.mark<c;omega));have d:=H_ S;have Z:=H_ (bj.out hmm);clear S
          cases mk with
          | false =>
            have q:Hid (¬ zbk D):=H_ (fun h=>by have v:=(r.out h).mkd hmm;rw [aU.out] at v;cases v);exact absurd f.out q.out
          | true =>
            have M:=H_ (bn.out (fun _=>aU.out) (fun h=>absurd hmm h));by_cases hkd:U=1
            · have a4:(U==1)=true:=beq_iff_eq.2 hkd
              have G:Hid (freshE D (i+1)=freshE D i+1):=H_ (by rw [N.out,R,a4];rfl);clear hmm hkd
              go_wp2_with (go_at_call 65;with_reducible refine (Z.out _ am.out).mono ?_;rintro e w9 ⟨rfl,a⟩
                           have cy:=a.cell0 v0)
              have l:=H_ (am.out.trans0 a);clear a;go_roundg g
              case rel=>exact ⟨i+1,_,by rw [G.out];go_num,by rw [d.out],rfl,by go_num,by omega,by rw [d.out];exact a5,by rw [d.out];go_num,H_ (a1.out M.out),H_ (by rw [al.out];exact HO.out.fr0 l.out),H_ (B.out.trans0 l.out)⟩
              case measure=>omega
            have a4:(U==1)=false:=beq_eq_false_iff_ne.2 hkd
            have G:Hid (freshE D (i+1)=freshE D i):=H_ (by rw [N.out,R,a4];rfl);clear hmm hkd
            go_wp2_with (go_at_call 65;with_reducible refine (Z.out _ am.out).mono ?_;rintro e w9 ⟨rfl,a⟩
                         have cy:=a.cell0 v0)
            have l:=H_ (am.out.trans0 a);clear a;go_roundg g
            case rel=>exact ⟨i+1,_,by rw [G.out],by rw [d.out],rfl,by go_num,by omega,by rw [d.out];exact a5,by rw [d.out];go_num,H_ (a1.out M.out),H_ (by rw [al.out];exact HO.out.fr0 l.out),H_ (B.out.trans0 l.out)⟩
            case measure=>omega
        have R:(c==D.mark)=false:=beq_eq_false_iff_ne.2 hmm
        have aK:D.mark<c:=(by have:=a0.out;omega);have al:Hid (foldTo D (i+1)=doneL (foldTo D i) ⟨U,⟨F,p2,p3,c,p5,p6⟩,⟨q1,q2,q3,q4,q5,q6⟩⟩):=H_ (bq.out aK);have G:Hid (freshE D (i+1)=freshE D i):=H_ (by rw [N.out,R];rfl);have d:=H_ S;clear S;have aS:=H_ (fun W (hW:Fr No W2 W)=>Calls.cls (bl.out W (a3.out.trans0 hW)) hW);have aR:=H_ (fun W (hW:Fr No W2 W)=>Calls.cls (bk.out hmm W) hW)
        cases md with
        | false =>
          have q:Hid (¬ zbk D):=H_ (fun h=>by have v:=(r.out h).md hmm;dsimp only at v;rw [aV.out,aT.out] at v;cases v);exact absurd f.out q.out
        | true =>
          have M:=H_ (bn.out (fun h=>absurd h hmm) (fun _=>by rw [aV.out];exact aT.out));clear hmm aK;go_upto_region 31 with fail;refine zak (C:=fun W=>Fr No W2 W) (by kernel_rfl) (by kernel_rfl) (t.out.drew) ?_
          repeat (refine (wpQuiet_step (fun K hK=>?_):_)
                  go_simp
                  first
                   | (refine hK _ ?_;clear hK K)
                   | (apply Exists.intro
                      refine ⟨fun W hW=>?_,hK _ ?_⟩
                      (first
                        | exact rfl
                        | (obtain ⟨c0,c1,c2,c3,c4,c5,c6,c7,c8,c9,cr,cs,ct⟩:=a2.out W hW;go_simp;exact rfl)
                        | (with_reducible exact (aS.out W hW))
                        | (with_reducible exact (aR.out W hW))
                      )
                      clear hK K))
          refine (wpQuiet_nil ?_:_);intro w9 a;have l:=H_ a;obtain ⟨c0,c1,c2,c3,c4,c5,c6,c7,c8,c9,cr,cs,ct⟩:=a2.out w9 a;have lc:=gB_ _ _ c0;clear a v0 v1 v2 v3 v4 v5 v6 v7 v8 v9 cz cA cB u0 u1 u2 u3 lv lu;go_wp2_with (go_at_call 68;with_reducible refine (bm.out _ (a3.out.trans0 l.out)).mono ?_;rintro e aB ⟨dG,rfl,aP,_,aF⟩);have bC:=H_ (aP.toR zah);have bp:=H_ (a3.out.trans0 (l.out.trans0 aF));clear aP aF;go_roundg g
          case rel=>exact ⟨i+1,_,by rw [G.out],by rw [d.out],rfl,by go_num,by omega,by rw [d.out];exact a5,by rw [d.out];go_num,H_ (a1.out M.out),H_ (by rw [al.out];exact bC.out),H_ (B.out.trans0 bp.out)⟩
          case measure=>omega
  | succ g =>
    have b9:(i:Int)<(D.kvs.length:Int):=(by omega);obtain ⟨x,b⟩:∃ x,D.kvs[i]?=some x:=⟨_,gG_ (by omega)⟩;obtain ⟨X,go,rfl⟩:=cm.out (by omega)
    have HS:Hid (∀ W,Fr No wr W->W.cell? ⟨w.heap.size,1,none⟩=some (.int .i64 D.mark)/\W.cell? ⟨w.heap.size,2,none⟩=some (.slice (some ⟨X,go,none⟩) D.kvs.length A) ∧
     W.cell? ⟨X,go+i * 6,none⟩=some (.string x.key)/\W.cell? ⟨X,go+i * 6+1,none⟩=some (.string x.value)/\W.cell? ⟨X,go+i * 6+2,none⟩=some (.int .i64 x.create)/\W.cell? ⟨X,go+i * 6+3,none⟩=some (.int .i64 x.mod)/\W.cell? ⟨X,go+i * 6+4,none⟩=some (.int .i64 x.version)/\W.cell? ⟨X,go+i * 6+5,none⟩=some (.int .i64 x.lease)):=H_ (fun W hW=>by
     have hh:=HD.out.kvs.fr0 (B.out.trans0 hW);exact ⟨hW.cell0 b1,hW.cell0 b2,hh.cell0 zah i b rfl,hh.cell zah i 1 b rfl,hh.cell zah i 2 b rfl,hh.cell zah i 3 b rfl,hh.cell zah i 4 b rfl,hh.cell zah i 5 b rfl⟩)
    have bZ:=bz.out.kvs x (gM_ b);have hC:=fun W (hW:Fr No wr W)=>(zhf W x bZ D.mark (by omega)).mono fun e w' (h:e=.returned (.bool (mayB x D.mark))/\Fr No W w')=>(⟨h.1,hW.trans0 h.2⟩:e=.returned (.bool (mayB x D.mark))/\Fr No wr w')
    cases hmay:mayB x D.mark with
    | false =>
      rw [hmay] at hC;unfold kvV at hC;have HC:=H_ hC;have q:Hid (¬ zbk D):=H_ (fun h=>by have:=(h.kvs i x b).may;rw [hmay] at this;cases this);exact absurd f.out q.out
    | true =>
      unfold kvV at hC;rw [hmay] at hC;have HC:=H_ hC;have V:=H_ b;have bs:=H_ hmay;clear hC bZ hmay b hb;rcases Nat.eq_zero_or_pos i with h0 | h0
      · subst h0
        rw [show ((0:Nat):Int)=(0:Int) from rfl];have b7:=HS.out;simp only [Nat.zero_mul,Nat.add_zero] at b7;clear HS;have HS:=H_ b7;clear b7;have dp:decide ((0:Int) > 0)=false:=rfl;have H:Hid (KvOk D 0 x):=H_ ⟨bs.out,fun _ h=>absurd h (Nat.lt_irrefl _)⟩;go_upto_region 7 with fail;refine zak (C:=fun W=>Fr No wr W) (by kernel_rfl) (by kernel_rfl) ((Fr.refl No wr).drew) ?_
        repeat (refine (wpQuiet_step (fun K hK=>?_):_)
                go_simp
                first
                 | (refine hK _ ?_;clear hK K)
                 | (apply Exists.intro
                    refine ⟨fun W hW=>?_,hK _ ?_⟩
                    (first
                      | exact rfl
                      | (obtain ⟨c1,c2,c3,c4,c5,c6,c7,c8⟩:=HS.out W hW;go_simp;exact rfl)
                      | (with_reducible exact (HC.out W hW))
                    )
                    clear hK K))
        refine (wpQuiet_nil ?_:_);intro w9 a;have l:=H_ a;clear a;go_upto_region 9 with fail;by_cases hmm:x.mod=D.mark
        · have m:(x.mod==D.mark)=true:=beq_iff_eq.2 hmm
          have L:Hid (freshK D (0+1)=freshK D 0+1):=H_ (by rw [zen D V.out,m];rfl);clear hmm;refine zak (C:=fun W=>Fr No wr W) (by kernel_rfl) (by kernel_rfl) (l.out.drew) ?_
          repeat (refine (wpQuiet_step (fun K hK=>?_):_)
                  go_simp
                  first
                   | (refine hK _ ?_;clear hK K)
                   | (apply Exists.intro
                      refine ⟨fun W hW=>?_,hK _ ?_⟩
                      (first
                        | exact rfl
                        | (obtain ⟨c1,c2,c3,c4,c5,c6,c7,c8⟩:=HS.out W hW;go_simp;exact rfl)
                      )
                      clear hK K))
          refine (wpQuiet_nil ?_:_);intro aB u;go_wp2;go_roundg g
          case rel=>exact ⟨1,by rw [L.out];go_num,by go_num,by omega,H_ (fun j' k hj hk=>by rcases Nat.lt_or_ge j' (0) with h | h;exact s.out j' k h hk;have e:j'=0:=(by omega);subst e;rw [V.out] at hk;cases hk;exact H.out),H_ (B.out.trans0 u)⟩
          case measure=>omega
        have m:(x.mod==D.mark)=false:=beq_eq_false_iff_ne.2 hmm
        have L:Hid (freshK D (0+1)=freshK D 0+0):=H_ (by rw [zen D V.out,m];rfl);clear hmm;refine zak (C:=fun W=>Fr No wr W) (by kernel_rfl) (by kernel_rfl) (l.out.drew) ?_
        repeat (refine (wpQuiet_step (fun K hK=>?_):_)
                go_simp
                first
                 | (refine hK _ ?_;clear hK K)
                 | (apply Exists.intro
                    refine ⟨fun W hW=>?_,hK _ ?_⟩
                    (first
                      | exact rfl
                      | (obtain ⟨c1,c2,c3,c4,c5,c6,c7,c8⟩:=HS.out W hW;go_simp;exact rfl)
                    )
                    clear hK K))
        refine (wpQuiet_nil ?_:_);intro aB u;go_wp2;go_roundg g
        case rel=>exact ⟨1,by rw [L.out];go_num,by go_num,by omega,H_ (fun j' k hj hk=>by rcases Nat.lt_or_ge j' (0) with h | h;exact s.out j' k h hk;have e:j'=0:=(by omega);subst e;rw [V.out] at hk;cases hk;exact H.out),H_ (B.out.trans0 u)⟩
        case measure=>omega
      obtain ⟨j,rfl⟩:∃ j,i=j+1:=⟨i-1,by omega⟩
      obtain ⟨x',a6⟩:∃ x',D.kvs[j]?=some x':=⟨_,gG_ (by omega)⟩;have cl:Hid (∀ W,Fr No wr W->W.cell? ⟨X,go+j * 6,none⟩=some (.string x'.key)):=H_ (fun W hW=>(HD.out.kvs.fr0 (B.out.trans0 hW)).cell0 zah j a6 rfl);have dq:decide (((j:Int)+1) > 0)=true:=dT_ (by omega);have dr:decide ((0:Int)<((j:Int)+1))=true:=dT_ (by omega);have ds:(0:Int)<=(j:Int)+1:=(by omega);have bL:(j:Int)<(D.kvs.length:Int):=(by omega);have dy:IntKind.i64.wrap (j:Int)=(j:Int):=IntWalk.i64_in _ ⟨by omega,by omega⟩;rcases zgk x'.key x.key with hc | hc | hc
      · obtain ⟨e1,e2,e3,e4,_⟩:=zfz hc
        have H:Hid (KvOk D (j+1) x):=H_ ⟨bs.out,fun k' _ hk'=>by rw [show j+1-1=j from rfl,a6] at hk';cases hk';exact hc⟩;clear hc a6;go_upto_region 7 with fail;refine zak (C:=fun W=>Fr No wr W) (by kernel_rfl) (by kernel_rfl) ((Fr.refl No wr).drew) ?_
        repeat (refine (wpQuiet_step (fun K hK=>?_):_)
                go_simp
                first
                 | (refine hK _ ?_;clear hK K)
                 | (apply Exists.intro
                    refine ⟨fun W hW=>?_,hK _ ?_⟩
                    (first
                      | exact rfl
                      | (obtain ⟨c1,c2,c3,c4,c5,c6,c7,c8⟩:=HS.out W hW;have c9:=cl.out W hW;go_simp;exact rfl)
                      | (with_reducible exact (HC.out W hW))
                    )
                    clear hK K))
        refine (wpQuiet_nil ?_:_);intro w9 a;have l:=H_ a;clear a;go_upto_region 9 with fail;by_cases hmm:x.mod=D.mark
        · have m:(x.mod==D.mark)=true:=beq_iff_eq.2 hmm
          have L:Hid (freshK D ((j+1)+1)=freshK D (j+1)+1):=H_ (by rw [zen D V.out,m];rfl);clear hmm;refine zak (C:=fun W=>Fr No wr W) (by kernel_rfl) (by kernel_rfl) (l.out.drew) ?_
          repeat (refine (wpQuiet_step (fun K hK=>?_):_)
                  go_simp
                  first
                   | (refine hK _ ?_;clear hK K)
                   | (apply Exists.intro
                      refine ⟨fun W hW=>?_,hK _ ?_⟩
                      (first
                        | exact rfl
                        | (obtain ⟨c1,c2,c3,c4,c5,c6,c7,c8⟩:=HS.out W hW;go_simp;exact rfl)
                      )
                      clear hK K))
          refine (wpQuiet_nil ?_:_);intro aB u;go_wp2;go_roundg g
          case rel=>exact ⟨j+2,by rw [L.out];go_num,by go_num,by omega,H_ (fun j' k hj hk=>by rcases Nat.lt_or_ge j' ((j+1)) with h | h;exact s.out j' k h hk;have e:j'=(j+1):=(by omega);subst e;rw [V.out] at hk;cases hk;exact H.out),H_ (B.out.trans0 u)⟩
          case measure=>omega
        have m:(x.mod==D.mark)=false:=beq_eq_false_iff_ne.2 hmm
        have L:Hid (freshK D ((j+1)+1)=freshK D (j+1)+0):=H_ (by rw [zen D V.out,m];rfl);clear hmm;refine zak (C:=fun W=>Fr No wr W) (by kernel_rfl) (by kernel_rfl) (l.out.drew) ?_
        repeat (refine (wpQuiet_step (fun K hK=>?_):_)
                go_simp
                first
                 | (refine hK _ ?_;clear hK K)
                 | (apply Exists.intro
                    refine ⟨fun W hW=>?_,hK _ ?_⟩
                    (first
                      | exact rfl
                      | (obtain ⟨c1,c2,c3,c4,c5,c6,c7,c8⟩:=HS.out W hW;go_simp;exact rfl)
                    )
                    clear hK K))
        refine (wpQuiet_nil ?_:_);intro aB u;go_wp2;go_roundg g
        case rel=>exact ⟨j+2,by rw [L.out];go_num,by go_num,by omega,H_ (fun j' k hj hk=>by rcases Nat.lt_or_ge j' ((j+1)) with h | h;exact s.out j' k h hk;have e:j'=(j+1):=(by omega);subst e;rw [V.out] at hk;cases hk;exact H.out),H_ (B.out.trans0 u)⟩
        case measure=>omega
      · have e1:(x.key.toList==x'.key.toList)=true:=by rw [hc];exact zlc _
        have q:Hid (¬ zbk D):=H_ (fun h=>by have:=(h.kvs (j+1) x V.out).up x' (by omega) a6;rw [hc,zbh] at this;cases this);exact absurd f.out q.out
      obtain ⟨e1,e2,e3,e4,_⟩:=zfz hc
      have q:Hid (¬ zbk D):=H_ (fun h=>by have:=(h.kvs (j+1) x V.out).up x' (by omega) a6;rw [zdc hc] at this;cases this);exact absurd f.out q.out
def PrevOk (D:Doc):Prop:=∀ e∈D.events,e.prev=kv0\/e.prev.key=e.kv.key
theorem zzc {l:List Kv} {k:ByteArray}:(hasL l k).getD kv0=kv0\/((hasL l k).getD kv0).key=k:=by
 unfold hasL
 cases h:l.find? fun x=>keq x.key k with
 | none=>exact .inl rfl
 | some y =>
   have:=List.find?_some h;exact .inr (zau.1 this)
theorem PrevOk.cut {D:Doc} (h:PrevOk D) (R:Int):PrevOk (D.cut R):=fun e he=>h e (gF_ he).1
theorem DocOk.prevs {n:Nat} {D:Doc} (h:DocOk n D) {e:Ev} (he:e∈D.events) (hm:D.mark<e.kv.mod):e.prev=kv0\/e.prev.key=e.kv.key:=by
 obtain ⟨A,B,a⟩:=List.append_of_mem he;rw [h.prev A e B a hm];exact zzc
theorem PrevOk.adds {n:Nat} {D:Doc} {E:List Ev} (h:PrevOk D) (hd:DocOk n (D.adds E)) (hm:∀ e∈E,e.kv.mod=D.rev+1) (hmr:D.mark<=D.rev):PrevOk (D.adds E):=by
 obtain ⟨a,b,c⟩:=Doc.adds_parts D E;intro e g;have d:=g;rw [c] at d;rcases gA_ d with f | f
 · exact h e f
 exact hd.prevs g (by rw [a,hm e f];omega)
theorem zvs {k:Nat} {S:St} {D:Doc} (h:Good k S D) (hk:k<=70) {q:CalQ} (hq:fewCal q=true) (hD:PrevOk D):PrevOk (doD S D q):=by
 obtain ⟨c,f,d,g,i⟩:=zdx hq;have b:=h.cpl.m0;unfold doD;by_cases h4:kindN q.1.kind=4
 · rw [if_pos h4];exact hD
 rw [if_neg h4]
 by_cases h5:kindN q.1.kind=5
 · rw [if_pos h5]
   split
   · exact hD.cut _
   exact hD
 rw [if_neg h5]
 by_cases h6:kindN q.1.kind=6
 · rw [if_pos h6];exact hD
 rw [if_neg h6]
 by_cases h7:kindN q.1.kind=7
 · rw [if_pos h7]
   obtain ⟨a,_⟩:=h.drops hk q.2.2 d q.2.2.length (Nat.le_refl _);have e:dropTo (D.rev+1) S q.2.2 q.2.2.length=q.2.2.foldl (dropR (D.rev+1)) (S,[]):=(by unfold dropTo;rw [List.take_length]);rw [e] at a;exact hD.adds a.doc a.mods b.2
 rw [if_neg h7]
 by_cases ha:applyE S q.2.1=0
 · rw [if_pos ha]
   obtain ⟨⟨a,_⟩,_⟩:=h.runs hk (zbf ha).1 (fun o ho=>by have:=(c o ho).1;omega) q.2.1.length (Nat.le_refl _);rw [List.take_length] at a;exact hD.adds a.doc a.mods b.2
 rw [if_neg ha];exact hD
end Go.Proofs.YtdgkdfmfoonbpaaGreat