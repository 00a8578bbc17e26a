/- Own lemmas. -/
import Derived.Test.YthljnnjpmdgkoaaGreatK36
import Derived.Deep.QuietTactic
import Derived.BigQuiet
namespace Go.Proofs.YthljnnjpmdgkoaaGreat
open Go Go.Proofs Go.RowKit
set_option maxRecDepth 100000
set_option maxHeartbeats 16000000 in
theorem zgx (w:World) (x:Ev) (was:Kv) (hx:x.kv.key.size<=1099511627776) (rev:Int) :
 Calls Tryz.prog 71 #[evV x,kvV was,.int .i64 rev] w fun e w'=>e=.returned (.bool (madeB x was rev))/\Fr No w w':=by
 have HK:=H_ (fun W=>zcz W x.kv.key hx);clear hx;obtain ⟨kd,⟨p1,p2,p3,p4,p5,p6⟩,⟨q1,q2,q3,q4,q5,q6⟩⟩:=x;obtain ⟨r1,r2,r3,r4,r5,r6⟩:=was;have ao:=fun W=>zcm W ⟨q1,q2,q3,q4,q5,q6⟩ ⟨r1,r2,r3,r4,r5,r6⟩;have am:=fun W=>zcm W ⟨p1,p2,p3,p4,p5,p6⟩ ⟨p1,⟨#[]⟩,0,rev,0,0⟩
 have HM:Hid (madeB ⟨kd,⟨p1,p2,p3,p4,p5,p6⟩,⟨q1,q2,q3,q4,q5,q6⟩⟩ ⟨r1,r2,r3,r4,r5,r6⟩ rev=if keyE p1≠0\/p4≠rev\/sameB ⟨q1,q2,q3,q4,q5,q6⟩ ⟨r1,r2,r3,r4,r5,r6⟩=false then false
  else if kd=2 then decide (0<r5)&&sameB ⟨p1,p2,p3,p4,p5,p6⟩ ⟨p1,⟨#[]⟩,0,rev,0,0⟩
  else (kd==1)&&((p3==if r5=0 then rev else r3)&&((p5==wrap64 (r5+1))&&(decide (p2.size<=1024)&&decide (0<=p6))))):=H_ rfl
 unfold kvV at ao am;dsimp only at HK ao am;unfold evV kvV;dsimp only;generalize hE:keyE p1=E at *;generalize madeB ⟨kd,⟨p1,p2,p3,p4,p5,p6⟩,⟨q1,q2,q3,q4,q5,q6⟩⟩ ⟨r1,r2,r3,r4,r5,r6⟩ rev=m at *;generalize aI:sameB ⟨q1,q2,q3,q4,q5,q6⟩ ⟨r1,r2,r3,r4,r5,r6⟩=s1 at *;generalize aL:sameB ⟨p1,p2,p3,p4,p5,p6⟩ ⟨p1,⟨#[]⟩,0,rev,0,0⟩=s2 at *;have a7:=H_ ao;have aM:=H_ am;clear hE aI aL ao am;have aG:=zaj (zad w (Obj.cells #[.int .i64 kd,.string p1,.string p2,.int .i64 p3,.int .i64 p4,.int .i64 p5,.int .i64 p6,.string q1,.string q2,.int .i64 q3,.int .i64 q4,.int .i64 q5,.int .i64 q6] 101) _ rfl) (Obj.cells #[.string r1,.string r2,.int .i64 r3,.int .i64 r4,.int .i64 r5,.int .i64 r6] 99)
 have aD:=zad (w.alloc (Obj.cells #[.int .i64 kd,.string p1,.string p2,.int .i64 p3,.int .i64 p4,.int .i64 p5,.int .i64 p6,.string q1,.string q2,.int .i64 q3,.int .i64 q4,.int .i64 q5,.int .i64 q6] 101)) (Obj.cells #[.string r1,.string r2,.int .i64 r3,.int .i64 r4,.int .i64 r5,.int .i64 r6] 99) (w.heap.size+1) (by simp);have aE:Fr No w ((w.alloc (Obj.cells #[.int .i64 kd,.string p1,.string p2,.int .i64 p3,.int .i64 p4,.int .i64 p5,.int .i64 p6,.string q1,.string q2,.int .i64 q3,.int .i64 q4,.int .i64 q5,.int .i64 q6] 101)).alloc (Obj.cells #[.string r1,.string r2,.int .i64 r3,.int .i64 r4,.int .i64 r5,.int .i64 r6] 99)):=((Fr.refl No w).alloc _).alloc _;have o:=H_ aG;have n:=H_ aD;have a3:=H_ aE;clear aG aD aE;by_cases h1:E=0
 · subst h1
   by_cases h2:p4=rev
   · have aC:(p4==rev)=true:=beq_iff_eq.2 h2
     have aF:(p4 != rev)=false:=(by unfold bne;rw [aC];rfl)
     cases s1 with
     | true =>
       have i:=HM.out;rw [if_neg (by rintro (h | h | h) <;> first | exact h rfl | exact h h2 | cases h)] at i;clear HM h2;by_cases h3:kd=2
       · subst h3
         rw [if_pos rfl] at i;by_cases h4:0<r5
         · have aH:decide (r5 > 0)=true:=decide_eq_true h4
           have ak:decide (0<r5)=true:=decide_eq_true h4;rw [ak,Bool.true_and] at i;have HW:=H_ i;clear i;go_enter Tryz.func71,Tryz.ntmps71
           go_wp2_with (go_at_call 124;refine (HK.out _).mono ?_;rintro e w1 ⟨rfl,c⟩
                        have b:=c.heap o.out id;have a:=c.heap n.out id;have a6:=zaa b;have a5:=zaa a;obtain ⟨D,L,J,A,G,y,z,u,C,t,j,k,l⟩:=cells13 b;obtain ⟨H,B,v,K,I,F⟩:=cells6 a;clear b a)
           go_wp2_with (go_at_call 82;with_reducible refine (a7.out _).mono ?_;rintro e w2 ⟨rfl,q⟩
                        have d:=c.trans0 q;have f:=d.heap o.out id;have g:=d.heap n.out id;have a8:=zaa f;have a9:=zaa g;obtain ⟨U,S,R,X,P,M,Z,Y,Q,a0,s,p,r⟩:=cells13 f;obtain ⟨O,N,a1,a2,V,T⟩:=cells6 g;clear f g)
           go_wp2_with (go_at_call 82;with_reducible refine (aM.out _).mono ?_;rintro e w3 ⟨rfl,aJ⟩
                        have aK:=d.trans0 aJ)
           go_ret;exact ⟨rb (HW.out.symm),a3.out.trans0 aK⟩
         have aH:decide (r5 > 0)=false:=decide_eq_false h4
         have ak:decide (0<r5)=false:=decide_eq_false h4;rw [ak,Bool.false_and] at i;have HW:=H_ i;clear i;go_enter Tryz.func71,Tryz.ntmps71
         go_wp2_with (go_at_call 124;refine (HK.out _).mono ?_;rintro e w1 ⟨rfl,c⟩
                      have b:=c.heap o.out id;have a:=c.heap n.out id;have a6:=zaa b;have a5:=zaa a;obtain ⟨D,L,J,A,G,y,z,u,C,t,j,k,l⟩:=cells13 b;obtain ⟨H,B,v,K,I,F⟩:=cells6 a;clear b a)
         go_wp2_with (go_at_call 82;with_reducible refine (a7.out _).mono ?_;rintro e w2 ⟨rfl,q⟩
                      have d:=c.trans0 q;have f:=d.heap o.out id;have g:=d.heap n.out id;have a8:=zaa f;have a9:=zaa g;obtain ⟨U,S,R,X,P,M,Z,Y,Q,a0,s,p,r⟩:=cells13 f;obtain ⟨O,N,a1,a2,V,T⟩:=cells6 g;clear f g)
         go_ret;exact ⟨rb (HW.out.symm),a3.out.trans0 d⟩
       rw [if_neg h3] at i
       have aS:(kd==2)=false:=beq_eq_false_iff_ne.2 h3;clear h3;by_cases h5:r5=0
       · rw [if_pos h5] at i
         have aN:(r5==0)=true:=beq_iff_eq.2 h5;clear h5
         cases c0:(kd==1) with
         | false =>
           rw [c0,Bool.false_and] at i;have HW:=H_ i;clear i;go_enter Tryz.func71,Tryz.ntmps71
           go_wp2_with (go_at_call 124;refine (HK.out _).mono ?_;rintro e w1 ⟨rfl,c⟩
                        have b:=c.heap o.out id;have a:=c.heap n.out id;have a6:=zaa b;have a5:=zaa a;obtain ⟨D,L,J,A,G,y,z,u,C,t,j,k,l⟩:=cells13 b;obtain ⟨H,B,v,K,I,F⟩:=cells6 a;clear b a)
           go_wp2_with (go_at_call 82;with_reducible refine (a7.out _).mono ?_;rintro e w2 ⟨rfl,q⟩
                        have d:=c.trans0 q;have f:=d.heap o.out id;have g:=d.heap n.out id;have a8:=zaa f;have a9:=zaa g;obtain ⟨U,S,R,X,P,M,Z,Y,Q,a0,s,p,r⟩:=cells13 f;obtain ⟨O,N,a1,a2,V,T⟩:=cells6 g;clear f g)
           go_ret;exact ⟨rb (HW.out.symm),a3.out.trans0 d⟩
         | true =>
           rw [c0,Bool.true_and] at i
           cases c1:(p3==rev) with
           | false =>
             rw [c1,Bool.false_and] at i;have HW:=H_ i;clear i;go_enter Tryz.func71,Tryz.ntmps71
             go_wp2_with (go_at_call 124;refine (HK.out _).mono ?_;rintro e w1 ⟨rfl,c⟩
                          have b:=c.heap o.out id;have a:=c.heap n.out id;have a6:=zaa b;have a5:=zaa a;obtain ⟨D,L,J,A,G,y,z,u,C,t,j,k,l⟩:=cells13 b;obtain ⟨H,B,v,K,I,F⟩:=cells6 a;clear b a)
             go_wp2_with (go_at_call 82;with_reducible refine (a7.out _).mono ?_;rintro e w2 ⟨rfl,q⟩
                          have d:=c.trans0 q;have f:=d.heap o.out id;have g:=d.heap n.out id;have a8:=zaa f;have a9:=zaa g;obtain ⟨U,S,R,X,P,M,Z,Y,Q,a0,s,p,r⟩:=cells13 f;obtain ⟨O,N,a1,a2,V,T⟩:=cells6 g;clear f g)
             go_ret;exact ⟨rb (HW.out.symm),a3.out.trans0 d⟩
           | true =>
             rw [c1,Bool.true_and] at i
             cases c2:(p5==wrap64 (r5+1)) with
             | false =>
               rw [c2,Bool.false_and] at i;have HW:=H_ i;clear i;go_enter Tryz.func71,Tryz.ntmps71
               go_wp2_with (go_at_call 124;refine (HK.out _).mono ?_;rintro e w1 ⟨rfl,c⟩
                            have b:=c.heap o.out id;have a:=c.heap n.out id;have a6:=zaa b;have a5:=zaa a;obtain ⟨D,L,J,A,G,y,z,u,C,t,j,k,l⟩:=cells13 b;obtain ⟨H,B,v,K,I,F⟩:=cells6 a;clear b a)
               go_wp2_with (go_at_call 82;with_reducible refine (a7.out _).mono ?_;rintro e w2 ⟨rfl,q⟩
                            have d:=c.trans0 q;have f:=d.heap o.out id;have g:=d.heap n.out id;have a8:=zaa f;have a9:=zaa g;obtain ⟨U,S,R,X,P,M,Z,Y,Q,a0,s,p,r⟩:=cells13 f;obtain ⟨O,N,a1,a2,V,T⟩:=cells6 g;clear f g)
               go_ret;exact ⟨rb (HW.out.symm),a3.out.trans0 d⟩
             | true =>
               rw [c2,Bool.true_and] at i
               cases c3:decide (p2.size<=1024) with
               | false =>
                 rw [c3,Bool.false_and] at i;have HW:=H_ i;clear i;have d3:decide ((p2.size:Int)<=1024)=false:=(by rw [decide_eq_false_iff_not] at c3 ⊢;omega);clear c3;go_enter Tryz.func71,Tryz.ntmps71
                 go_wp2_with (go_at_call 124;refine (HK.out _).mono ?_;rintro e w1 ⟨rfl,c⟩
                              have b:=c.heap o.out id;have a:=c.heap n.out id;have a6:=zaa b;have a5:=zaa a;obtain ⟨D,L,J,A,G,y,z,u,C,t,j,k,l⟩:=cells13 b;obtain ⟨H,B,v,K,I,F⟩:=cells6 a;clear b a)
                 go_wp2_with (go_at_call 82;with_reducible refine (a7.out _).mono ?_;rintro e w2 ⟨rfl,q⟩
                              have d:=c.trans0 q;have f:=d.heap o.out id;have g:=d.heap n.out id;have a8:=zaa f;have a9:=zaa g;obtain ⟨U,S,R,X,P,M,Z,Y,Q,a0,s,p,r⟩:=cells13 f;obtain ⟨O,N,a1,a2,V,T⟩:=cells6 g;clear f g)
                 go_ret;exact ⟨rb (HW.out.symm),a3.out.trans0 d⟩
               | true =>
                 rw [c3,Bool.true_and] at i;have d3:decide ((p2.size:Int)<=1024)=true:=(by rw [decide_eq_true_iff] at c3 ⊢;omega);clear c3;have HW:=H_ i;clear i;go_enter Tryz.func71,Tryz.ntmps71
                 go_wp2_with (go_at_call 124;refine (HK.out _).mono ?_;rintro e w1 ⟨rfl,c⟩
                              have b:=c.heap o.out id;have a:=c.heap n.out id;have a6:=zaa b;have a5:=zaa a;obtain ⟨D,L,J,A,G,y,z,u,C,t,j,k,l⟩:=cells13 b;obtain ⟨H,B,v,K,I,F⟩:=cells6 a;clear b a)
                 go_wp2_with (go_at_call 82;with_reducible refine (a7.out _).mono ?_;rintro e w2 ⟨rfl,q⟩
                              have d:=c.trans0 q;have f:=d.heap o.out id;have g:=d.heap n.out id;have a8:=zaa f;have a9:=zaa g;obtain ⟨U,S,R,X,P,M,Z,Y,Q,a0,s,p,r⟩:=cells13 f;obtain ⟨O,N,a1,a2,V,T⟩:=cells6 g;clear f g)
                 go_ret;exact ⟨rb (HW.out.symm),a3.out.trans0 d⟩
       rw [if_neg h5] at i
       have aN:(r5==0)=false:=beq_eq_false_iff_ne.2 h5;clear h5
       cases c0:(kd==1) with
       | false =>
         rw [c0,Bool.false_and] at i;have HW:=H_ i;clear i;go_enter Tryz.func71,Tryz.ntmps71
         go_wp2_with (go_at_call 124;refine (HK.out _).mono ?_;rintro e w1 ⟨rfl,c⟩
                      have b:=c.heap o.out id;have a:=c.heap n.out id;have a6:=zaa b;have a5:=zaa a;obtain ⟨D,L,J,A,G,y,z,u,C,t,j,k,l⟩:=cells13 b;obtain ⟨H,B,v,K,I,F⟩:=cells6 a;clear b a)
         go_wp2_with (go_at_call 82;with_reducible refine (a7.out _).mono ?_;rintro e w2 ⟨rfl,q⟩
                      have d:=c.trans0 q;have f:=d.heap o.out id;have g:=d.heap n.out id;have a8:=zaa f;have a9:=zaa g;obtain ⟨U,S,R,X,P,M,Z,Y,Q,a0,s,p,r⟩:=cells13 f;obtain ⟨O,N,a1,a2,V,T⟩:=cells6 g;clear f g)
         go_ret;exact ⟨rb (HW.out.symm),a3.out.trans0 d⟩
       | true =>
         rw [c0,Bool.true_and] at i
         cases c1:(p3==r3) with
         | false =>
           rw [c1,Bool.false_and] at i;have HW:=H_ i;clear i;go_enter Tryz.func71,Tryz.ntmps71
           go_wp2_with (go_at_call 124;refine (HK.out _).mono ?_;rintro e w1 ⟨rfl,c⟩
                        have b:=c.heap o.out id;have a:=c.heap n.out id;have a6:=zaa b;have a5:=zaa a;obtain ⟨D,L,J,A,G,y,z,u,C,t,j,k,l⟩:=cells13 b;obtain ⟨H,B,v,K,I,F⟩:=cells6 a;clear b a)
           go_wp2_with (go_at_call 82;with_reducible refine (a7.out _).mono ?_;rintro e w2 ⟨rfl,q⟩
                        have d:=c.trans0 q;have f:=d.heap o.out id;have g:=d.heap n.out id;have a8:=zaa f;have a9:=zaa g;obtain ⟨U,S,R,X,P,M,Z,Y,Q,a0,s,p,r⟩:=cells13 f;obtain ⟨O,N,a1,a2,V,T⟩:=cells6 g;clear f g)
           go_ret;exact ⟨rb (HW.out.symm),a3.out.trans0 d⟩
         | true =>
           rw [c1,Bool.true_and] at i
           cases c2:(p5==wrap64 (r5+1)) with
           | false =>
             rw [c2,Bool.false_and] at i;have HW:=H_ i;clear i;go_enter Tryz.func71,Tryz.ntmps71
             go_wp2_with (go_at_call 124;refine (HK.out _).mono ?_;rintro e w1 ⟨rfl,c⟩
                          have b:=c.heap o.out id;have a:=c.heap n.out id;have a6:=zaa b;have a5:=zaa a;obtain ⟨D,L,J,A,G,y,z,u,C,t,j,k,l⟩:=cells13 b;obtain ⟨H,B,v,K,I,F⟩:=cells6 a;clear b a)
             go_wp2_with (go_at_call 82;with_reducible refine (a7.out _).mono ?_;rintro e w2 ⟨rfl,q⟩
                          have d:=c.trans0 q;have f:=d.heap o.out id;have g:=d.heap n.out id;have a8:=zaa f;have a9:=zaa g;obtain ⟨U,S,R,X,P,M,Z,Y,Q,a0,s,p,r⟩:=cells13 f;obtain ⟨O,N,a1,a2,V,T⟩:=cells6 g;clear f g)
             go_ret;exact ⟨rb (HW.out.symm),a3.out.trans0 d⟩
           | true =>
             rw [c2,Bool.true_and] at i
             cases c3:decide (p2.size<=1024) with
             | false =>
               rw [c3,Bool.false_and] at i;have HW:=H_ i;clear i;have d3:decide ((p2.size:Int)<=1024)=false:=(by rw [decide_eq_false_iff_not] at c3 ⊢;omega);clear c3;go_enter Tryz.func71,Tryz.ntmps71
               go_wp2_with (go_at_call 124;refine (HK.out _).mono ?_;rintro e w1 ⟨rfl,c⟩
                            have b:=c.heap o.out id;have a:=c.heap n.out id;have a6:=zaa b;have a5:=zaa a;obtain ⟨D,L,J,A,G,y,z,u,C,t,j,k,l⟩:=cells13 b;obtain ⟨H,B,v,K,I,F⟩:=cells6 a;clear b a)
               go_wp2_with (go_at_call 82;with_reducible refine (a7.out _).mono ?_;rintro e w2 ⟨rfl,q⟩
                            have d:=c.trans0 q;have f:=d.heap o.out id;have g:=d.heap n.out id;have a8:=zaa f;have a9:=zaa g;obtain ⟨U,S,R,X,P,M,Z,Y,Q,a0,s,p,r⟩:=cells13 f;obtain ⟨O,N,a1,a2,V,T⟩:=cells6 g;clear f g)
               go_ret;exact ⟨rb (HW.out.symm),a3.out.trans0 d⟩
             | true =>
               rw [c3,Bool.true_and] at i;have d3:decide ((p2.size:Int)<=1024)=true:=(by rw [decide_eq_true_iff] at c3 ⊢;omega);clear c3;have HW:=H_ i;clear i;go_enter Tryz.func71,Tryz.ntmps71
               go_wp2_with (go_at_call 124;refine (HK.out _).mono ?_;rintro e w1 ⟨rfl,c⟩
                            have b:=c.heap o.out id;have a:=c.heap n.out id;have a6:=zaa b;have a5:=zaa a;obtain ⟨D,L,J,A,G,y,z,u,C,t,j,k,l⟩:=cells13 b;obtain ⟨H,B,v,K,I,F⟩:=cells6 a;clear b a)
               go_wp2_with (go_at_call 82;with_reducible refine (a7.out _).mono ?_;rintro e w2 ⟨rfl,q⟩
                            have d:=c.trans0 q;have f:=d.heap o.out id;have g:=d.heap n.out id;have a8:=zaa f;have a9:=zaa g;obtain ⟨U,S,R,X,P,M,Z,Y,Q,a0,s,p,r⟩:=cells13 f;obtain ⟨O,N,a1,a2,V,T⟩:=cells6 g;clear f g)
               go_ret;exact ⟨rb (HW.out.symm),a3.out.trans0 d⟩
     | false =>
       have HW:Hid (false=m):=H_ (by rw [HM.out,if_pos (.inr (.inr rfl))]);clear HM h2;go_enter Tryz.func71,Tryz.ntmps71
       go_wp2_with (go_at_call 124;refine (HK.out _).mono ?_;rintro e w1 ⟨rfl,c⟩
                    have b:=c.heap o.out id;have a:=c.heap n.out id;have a6:=zaa b;have a5:=zaa a;obtain ⟨D,L,J,A,G,y,z,u,C,t,j,k,l⟩:=cells13 b;obtain ⟨H,B,v,K,I,F⟩:=cells6 a;clear b a)
       go_wp2_with (go_at_call 82;with_reducible refine (a7.out _).mono ?_;rintro e w2 ⟨rfl,q⟩
                    have d:=c.trans0 q;have f:=d.heap o.out id;have g:=d.heap n.out id;have a8:=zaa f;have a9:=zaa g;obtain ⟨U,S,R,X,P,M,Z,Y,Q,a0,s,p,r⟩:=cells13 f;obtain ⟨O,N,a1,a2,V,T⟩:=cells6 g;clear f g)
       go_ret;exact ⟨rb (HW.out),a3.out.trans0 d⟩
   have aC:(p4==rev)=false:=beq_eq_false_iff_ne.2 h2
   have aF:(p4 != rev)=true:=(by unfold bne;rw [aC];rfl);have HW:Hid (false=m):=H_ (by rw [HM.out,if_pos (.inr (.inl h2))]);clear h2 HM;go_enter Tryz.func71,Tryz.ntmps71
   go_wp2_with (go_at_call 124;refine (HK.out _).mono ?_;rintro e w1 ⟨rfl,c⟩
                have b:=c.heap o.out id;have a:=c.heap n.out id;have a6:=zaa b;have a5:=zaa a;obtain ⟨D,L,J,A,G,y,z,u,C,t,j,k,l⟩:=cells13 b;obtain ⟨H,B,v,K,I,F⟩:=cells6 a;clear b a)
   go_ret;exact ⟨rb (HW.out),a3.out.trans0 c⟩
 have aR:(E != 0)=true:=by rw [bne_iff_ne];exact h1
 have aP:(E==0)=false:=beq_eq_false_iff_ne.2 h1;have HW:Hid (false=m):=H_ (by rw [HM.out,if_pos (.inl h1)]);clear h1 HM;go_enter Tryz.func71,Tryz.ntmps71
 go_wp2_with (go_at_call 124;refine (HK.out _).mono ?_;rintro e w1 ⟨rfl,c⟩
              have b:=c.heap o.out id;have a:=c.heap n.out id;have a6:=zaa b;have a5:=zaa a;obtain ⟨D,L,J,A,G,y,z,u,C,t,j,k,l⟩:=cells13 b;obtain ⟨H,B,v,K,I,F⟩:=cells6 a;clear b a)
 go_ret;exact ⟨rb (HW.out),a3.out.trans0 c⟩
set_option maxHeartbeats 16000000 in
theorem zja (w:World) (x:Ev) (v:Value) (L:List Kv) (hv:SlR w 6 kvC v L) (hl:L.length<=1099511627) (hx:x.kv.key.size<=1099511627776) (hp:x.prev.key.size<=1099511627776) (mark:Int) (hm:0<=mark/\mark<=1099511627776) :
 Calls Tryz.prog 70 #[evV x,v,.int .i64 mark] w fun e w'=>e=.returned (.bool (zgr x L mark))/\Fr No w w':=by
 have hH:=fun W (hW:Fr No w W)=>zfk W v L (hv.fr0 hW) hl x.kv.key;have hA:=fun W=>zhx W x.prev hp (mark-1) (by omega);have hM:=fun W=>zgx W x x.prev hx mark
 have HM:Hid (zgr x L mark=if (sameB x.prev kv0=false/\(keq x.prev.key x.kv.key=false\/mayB x.prev (mark-1)=false))\/madeB x x.prev mark=false then false
  else if x.kind=1 then sameB ((hasL L x.kv.key).getD kv0) x.kv else ((hasL L x.kv.key).getD kv0).version==0):=H_ rfl
 generalize bC:(hasL L x.kv.key).getD kv0=nw at *;generalize zgr x L mark=m at *;generalize bx:mayB x.prev (mark-1)=ma at *;generalize bv:madeB x x.prev mark=md at *;have aU:=fun W=>zcm W x.prev ⟨⟨#[]⟩,⟨#[]⟩,0,0,0,0⟩;have aW:=fun W=>zcm W nw x.kv;have c4:0<=mark:=hm.1;have c2:mark<=1099511627776:=hm.2;clear hv hl hx hp bC bx bv hm;obtain ⟨kd,⟨p1,p2,p3,p4,p5,p6⟩,⟨q1,q2,q3,q4,q5,q6⟩⟩:=x;obtain ⟨n1,n2,n3,n4,n5,n6⟩:=nw;rw [show kv0=⟨⟨#[]⟩,⟨#[]⟩,0,0,0,0⟩ from rfl] at HM;unfold evV at hM;unfold kvV at hH hA hM aU aW;dsimp only at hH hA hM aU aW HM;generalize bD:sameB ⟨q1,q2,q3,q4,q5,q6⟩ ⟨⟨#[]⟩,⟨#[]⟩,0,0,0,0⟩=s1 at *;generalize bo:sameB ⟨n1,n2,n3,n4,n5,n6⟩ ⟨p1,p2,p3,p4,p5,p6⟩=s2 at *;have HH:=H_ hH;have HA:=H_ hA;have HD:=H_ hM;have au:=H_ aU
 have bf:=H_ aW;unfold evV;dsimp only;clear hH hA hM aU aW bD bo;have bh:=zad w (Obj.cells #[.int .i64 kd,.string p1,.string p2,.int .i64 p3,.int .i64 p4,.int .i64 p5,.int .i64 p6,.string q1,.string q2,.int .i64 q3,.int .i64 q4,.int .i64 q5,.int .i64 q6] 101) _ rfl;have bg:Fr No w (w.alloc (Obj.cells #[.int .i64 kd,.string p1,.string p2,.int .i64 p3,.int .i64 p4,.int .i64 p5,.int .i64 p6,.string q1,.string q2,.int .i64 q3,.int .i64 q4,.int .i64 q5,.int .i64 q6] 101)):=(Fr.refl No w).alloc _;have l:=H_ bh;have a2:=H_ bg;clear bh bg
 cases s1 with
 | true =>
   cases md with
   | false =>
     have HW:Hid (false=m):=H_ (by rw [HM.out,if_pos (.inr rfl)]);clear HM;go_enter Tryz.func70,Tryz.ntmps70
     go_wp2_with (go_at_call 72;with_reducible refine (HH.out _ a2.out).mono ?_;rintro e w1 ⟨rfl,s⟩
                  have c:=s.heap l.out id;have ay:=zaa c;obtain ⟨C,E,t,r,D,z,A,q,B,u,a,b,f⟩:=cells13 c;clear c)
     go_wp2_with (go_at_call 82;with_reducible refine (au.out _).mono ?_;rintro e w2 ⟨rfl,y⟩
                  have p:=(s.alloc _).trans0 y;have g:=y.heap (zad w1 (Obj.cells #[.string n1,.string n2,.int .i64 n3,.int .i64 n4,.int .i64 n5,.int .i64 n6] 99) _ rfl) id;clear C E t r D z A q B u a b f;have d:=p.heap l.out id;have av:=zaa d;obtain ⟨R,H,G,S,F,M,U,T,P,V,k,j,i⟩:=cells13 d;have ax:=zaa g;obtain ⟨O,N,J,K,I,Q⟩:=cells6 g;clear d)
     go_wp2_with (go_at_call 71;with_reducible refine (HD.out _).mono ?_;rintro e w3 ⟨rfl,a0⟩
                  have a1:=p.trans0 a0;have o:=a0.heap g id;clear R H G S F M U T P V k j i O N J K I Q;have n:=a1.heap l.out id;have aR:=zaa n;obtain ⟨a9,a5,af,ah,aa,ab,a3,a4,ae,ad,Z,X,Y⟩:=cells13 n;have aQ:=zaa o;obtain ⟨ag,a7,a8,ai,aj,a6⟩:=cells6 o;clear n)
     go_ret;exact ⟨rb (HW.out),a2.out.trans0 a1⟩
   | true =>
     have ak:=HM.out;rw [if_neg (by rintro (⟨h,_⟩ | h) <;> cases h)] at ak;clear HM;by_cases hk:kd=1
     · subst hk
       rw [if_pos rfl] at ak;have HW:=H_ ak;clear ak;go_enter Tryz.func70,Tryz.ntmps70
       go_wp2_with (go_at_call 72;with_reducible refine (HH.out _ a2.out).mono ?_;rintro e w1 ⟨rfl,s⟩
                    have c:=s.heap l.out id;have ay:=zaa c;obtain ⟨C,E,t,r,D,z,A,q,B,u,a,b,f⟩:=cells13 c;clear c)
       go_wp2_with (go_at_call 82;with_reducible refine (au.out _).mono ?_;rintro e w2 ⟨rfl,y⟩
                    have p:=(s.alloc _).trans0 y;have g:=y.heap (zad w1 (Obj.cells #[.string n1,.string n2,.int .i64 n3,.int .i64 n4,.int .i64 n5,.int .i64 n6] 99) _ rfl) id;clear C E t r D z A q B u a b f;have d:=p.heap l.out id;have av:=zaa d;obtain ⟨R,H,G,S,F,M,U,T,P,V,k,j,i⟩:=cells13 d;have ax:=zaa g;obtain ⟨O,N,J,K,I,Q⟩:=cells6 g;clear d)
       go_wp2_with (go_at_call 71;with_reducible refine (HD.out _).mono ?_;rintro e w3 ⟨rfl,a0⟩
                    have a1:=p.trans0 a0;have o:=a0.heap g id;clear R H G S F M U T P V k j i O N J K I Q;have n:=a1.heap l.out id;have aR:=zaa n;obtain ⟨a9,a5,af,ah,aa,ab,a3,a4,ae,ad,Z,X,Y⟩:=cells13 n;have aQ:=zaa o;obtain ⟨ag,a7,a8,ai,aj,a6⟩:=cells6 o;clear n)
       go_wp2_with (go_at_call 82;with_reducible refine (bf.out _).mono ?_;rintro e w4 ⟨rfl,an⟩
                    have ao:=a1.trans0 an;have am:=an.heap o id;clear a9 a5 af ah aa ab a3 a4 ae ad Z X Y ag a7 a8 ai aj a6;have al:=ao.heap l.out id;have b9:=zaa al;obtain ⟨aM,aH,aJ,aD,aG,aF,aA,aO,aC,az,aq,ar,ap⟩:=cells13 al;have b7:=zaa am;obtain ⟨aP,aB,aL,aK,aI,aE⟩:=cells6 am;clear al)
       go_ret;exact ⟨rb (HW.out.symm),a2.out.trans0 ao⟩
     have bJ:(kd==1)=false:=beq_eq_false_iff_ne.2 hk
     rw [if_neg hk] at ak;have HW:=H_ ak;clear ak hk;go_enter Tryz.func70,Tryz.ntmps70
     go_wp2_with (go_at_call 72;with_reducible refine (HH.out _ a2.out).mono ?_;rintro e w1 ⟨rfl,s⟩
                  have c:=s.heap l.out id;have ay:=zaa c;obtain ⟨C,E,t,r,D,z,A,q,B,u,a,b,f⟩:=cells13 c;clear c)
     go_wp2_with (go_at_call 82;with_reducible refine (au.out _).mono ?_;rintro e w2 ⟨rfl,y⟩
                  have p:=(s.alloc _).trans0 y;have g:=y.heap (zad w1 (Obj.cells #[.string n1,.string n2,.int .i64 n3,.int .i64 n4,.int .i64 n5,.int .i64 n6] 99) _ rfl) id;clear C E t r D z A q B u a b f;have d:=p.heap l.out id;have av:=zaa d;obtain ⟨R,H,G,S,F,M,U,T,P,V,k,j,i⟩:=cells13 d;have ax:=zaa g;obtain ⟨O,N,J,K,I,Q⟩:=cells6 g;clear d)
     go_wp2_with (go_at_call 71;with_reducible refine (HD.out _).mono ?_;rintro e w3 ⟨rfl,a0⟩
                  have a1:=p.trans0 a0;have o:=a0.heap g id;clear R H G S F M U T P V k j i O N J K I Q;have n:=a1.heap l.out id;have aR:=zaa n;obtain ⟨a9,a5,af,ah,aa,ab,a3,a4,ae,ad,Z,X,Y⟩:=cells13 n;have aQ:=zaa o;obtain ⟨ag,a7,a8,ai,aj,a6⟩:=cells6 o;clear n)
     go_ret;exact ⟨rb (HW.out.symm),a2.out.trans0 a1⟩
 | false =>
   cases hkk:keq q1 p1 with
   | false =>
     have b6:(q1.toList==p1.toList)=false:=hkk;have bq:(q1.toList != p1.toList)=true:=(by unfold bne;rw [b6];rfl);have HW:Hid (false=m):=H_ (by rw [HM.out,if_pos (.inl ⟨rfl,.inl hkk⟩)]);clear HM hkk;go_enter Tryz.func70,Tryz.ntmps70
     go_wp2_with (go_at_call 72;with_reducible refine (HH.out _ a2.out).mono ?_;rintro e w1 ⟨rfl,s⟩
                  have c:=s.heap l.out id;have ay:=zaa c;obtain ⟨C,E,t,r,D,z,A,q,B,u,a,b,f⟩:=cells13 c;clear c)
     go_wp2_with (go_at_call 82;with_reducible refine (au.out _).mono ?_;rintro e w2 ⟨rfl,y⟩
                  have p:=(s.alloc _).trans0 y;have g:=y.heap (zad w1 (Obj.cells #[.string n1,.string n2,.int .i64 n3,.int .i64 n4,.int .i64 n5,.int .i64 n6] 99) _ rfl) id;clear C E t r D z A q B u a b f;have d:=p.heap l.out id;have av:=zaa d;obtain ⟨R,H,G,S,F,M,U,T,P,V,k,j,i⟩:=cells13 d;have ax:=zaa g;obtain ⟨O,N,J,K,I,Q⟩:=cells6 g;clear d)
     go_ret;exact ⟨rb (HW.out),a2.out.trans0 p⟩
   | true =>
     have b6:(q1.toList==p1.toList)=true:=hkk;have bq:(q1.toList != p1.toList)=false:=(by unfold bne;rw [b6];rfl)
     cases ma with
     | false =>
       have HW:Hid (false=m):=H_ (by rw [HM.out,if_pos (.inl ⟨rfl,.inr rfl⟩)]);clear HM hkk;go_enter Tryz.func70,Tryz.ntmps70
       go_wp2_with (go_at_call 72;with_reducible refine (HH.out _ a2.out).mono ?_;rintro e w1 ⟨rfl,s⟩
                    have c:=s.heap l.out id;have ay:=zaa c;obtain ⟨C,E,t,r,D,z,A,q,B,u,a,b,f⟩:=cells13 c;clear c)
       go_wp2_with (go_at_call 82;with_reducible refine (au.out _).mono ?_;rintro e w2 ⟨rfl,y⟩
                    have p:=(s.alloc _).trans0 y;have g:=y.heap (zad w1 (Obj.cells #[.string n1,.string n2,.int .i64 n3,.int .i64 n4,.int .i64 n5,.int .i64 n6] 99) _ rfl) id;clear C E t r D z A q B u a b f;have d:=p.heap l.out id;have av:=zaa d;obtain ⟨R,H,G,S,F,M,U,T,P,V,k,j,i⟩:=cells13 d;have ax:=zaa g;obtain ⟨O,N,J,K,I,Q⟩:=cells6 g;clear d)
       go_wp2_with (go_at_call 69;with_reducible refine (HA.out _).mono ?_;rintro e w3 ⟨rfl,a0⟩
                    have a1:=p.trans0 a0;have o:=a0.heap g id;clear R H G S F M U T P V k j i O N J K I Q;have n:=a1.heap l.out id;have aR:=zaa n;obtain ⟨a9,a5,af,ah,aa,ab,a3,a4,ae,ad,Z,X,Y⟩:=cells13 n;have aQ:=zaa o;obtain ⟨ag,a7,a8,ai,aj,a6⟩:=cells6 o;clear n)
       go_ret;exact ⟨rb (HW.out),a2.out.trans0 a1⟩
     | true =>
       cases md with
       | false =>
         have HW:Hid (false=m):=H_ (by rw [HM.out,if_pos (.inr rfl)]);clear HM hkk;go_enter Tryz.func70,Tryz.ntmps70
         go_wp2_with (go_at_call 72;with_reducible refine (HH.out _ a2.out).mono ?_;rintro e w1 ⟨rfl,s⟩
                      have c:=s.heap l.out id;have ay:=zaa c;obtain ⟨C,E,t,r,D,z,A,q,B,u,a,b,f⟩:=cells13 c;clear c)
         go_wp2_with (go_at_call 82;with_reducible refine (au.out _).mono ?_;rintro e w2 ⟨rfl,y⟩
                      have p:=(s.alloc _).trans0 y;have g:=y.heap (zad w1 (Obj.cells #[.string n1,.string n2,.int .i64 n3,.int .i64 n4,.int .i64 n5,.int .i64 n6] 99) _ rfl) id;clear C E t r D z A q B u a b f;have d:=p.heap l.out id;have av:=zaa d;obtain ⟨R,H,G,S,F,M,U,T,P,V,k,j,i⟩:=cells13 d;have ax:=zaa g;obtain ⟨O,N,J,K,I,Q⟩:=cells6 g;clear d)
         go_wp2_with (go_at_call 69;with_reducible refine (HA.out _).mono ?_;rintro e w3 ⟨rfl,a0⟩
                      have a1:=p.trans0 a0;have o:=a0.heap g id;clear R H G S F M U T P V k j i O N J K I Q;have n:=a1.heap l.out id;have aR:=zaa n;obtain ⟨a9,a5,af,ah,aa,ab,a3,a4,ae,ad,Z,X,Y⟩:=cells13 n;have aQ:=zaa o;obtain ⟨ag,a7,a8,ai,aj,a6⟩:=cells6 o;clear n)
         go_wp2_with (go_at_call 71;with_reducible refine (HD.out _).mono ?_;rintro e w4 ⟨rfl,an⟩
                      have ao:=a1.trans0 an;have am:=an.heap o id;clear a9 a5 af ah aa ab a3 a4 ae ad Z X Y ag a7 a8 ai aj a6;have al:=ao.heap l.out id;have b9:=zaa al;obtain ⟨aM,aH,aJ,aD,aG,aF,aA,aO,aC,az,aq,ar,ap⟩:=cells13 al;have b7:=zaa am;obtain ⟨aP,aB,aL,aK,aI,aE⟩:=cells6 am;clear al)
         go_ret;exact ⟨rb (HW.out),a2.out.trans0 ao⟩
       | true =>
         have ak:=HM.out;rw [if_neg (by rintro (⟨_,h | h⟩ | h) <;> first | (rw [hkk] at h;cases h) | cases h)] at ak;clear HM hkk;by_cases hk:kd=1
         · subst hk
           rw [if_pos rfl] at ak;have HW:=H_ ak;clear ak;go_enter Tryz.func70,Tryz.ntmps70
           go_wp2_with (go_at_call 72;with_reducible refine (HH.out _ a2.out).mono ?_;rintro e w1 ⟨rfl,s⟩
                        have c:=s.heap l.out id;have ay:=zaa c;obtain ⟨C,E,t,r,D,z,A,q,B,u,a,b,f⟩:=cells13 c;clear c)
           go_wp2_with (go_at_call 82;with_reducible refine (au.out _).mono ?_;rintro e w2 ⟨rfl,y⟩
                        have p:=(s.alloc _).trans0 y;have g:=y.heap (zad w1 (Obj.cells #[.string n1,.string n2,.int .i64 n3,.int .i64 n4,.int .i64 n5,.int .i64 n6] 99) _ rfl) id;clear C E t r D z A q B u a b f;have d:=p.heap l.out id;have av:=zaa d;obtain ⟨R,H,G,S,F,M,U,T,P,V,k,j,i⟩:=cells13 d;have ax:=zaa g;obtain ⟨O,N,J,K,I,Q⟩:=cells6 g;clear d)
           go_wp2_with (go_at_call 69;with_reducible refine (HA.out _).mono ?_;rintro e w3 ⟨rfl,a0⟩
                        have a1:=p.trans0 a0;have o:=a0.heap g id;clear R H G S F M U T P V k j i O N J K I Q;have n:=a1.heap l.out id;have aR:=zaa n;obtain ⟨a9,a5,af,ah,aa,ab,a3,a4,ae,ad,Z,X,Y⟩:=cells13 n;have aQ:=zaa o;obtain ⟨ag,a7,a8,ai,aj,a6⟩:=cells6 o;clear n)
           go_wp2_with (go_at_call 71;with_reducible refine (HD.out _).mono ?_;rintro e w4 ⟨rfl,an⟩
                        have ao:=a1.trans0 an;have am:=an.heap o id;clear a9 a5 af ah aa ab a3 a4 ae ad Z X Y ag a7 a8 ai aj a6;have al:=ao.heap l.out id;have b9:=zaa al;obtain ⟨aM,aH,aJ,aD,aG,aF,aA,aO,aC,az,aq,ar,ap⟩:=cells13 al;have b7:=zaa am;obtain ⟨aP,aB,aL,aK,aI,aE⟩:=cells6 am;clear al)
           go_wp2_with (go_at_call 82;with_reducible refine (bf.out _).mono ?_;rintro e w5 ⟨rfl,bd⟩
                        have be:=ao.trans0 bd;have bi:=bd.heap am id;clear aM aH aJ aD aG aF aA aO aC az aq ar ap aP aB aL aK aI aE;have b8:=be.heap l.out id;have c5:=zaa b8;obtain ⟨bM,bX,c1,bZ,bR,bS,bV,bY,bQ,bO,bI,bF,bn⟩:=cells13 b8;have c3:=zaa bi;obtain ⟨bL,bT,bN,bW,c0,bU⟩:=cells6 bi;clear b8)
           go_ret;exact ⟨rb (HW.out.symm),a2.out.trans0 be⟩
         have bJ:(kd==1)=false:=beq_eq_false_iff_ne.2 hk
         rw [if_neg hk] at ak;have HW:=H_ ak;clear ak hk;go_enter Tryz.func70,Tryz.ntmps70
         go_wp2_with (go_at_call 72;with_reducible refine (HH.out _ a2.out).mono ?_;rintro e w1 ⟨rfl,s⟩
                      have c:=s.heap l.out id;have ay:=zaa c;obtain ⟨C,E,t,r,D,z,A,q,B,u,a,b,f⟩:=cells13 c;clear c)
         go_wp2_with (go_at_call 82;with_reducible refine (au.out _).mono ?_;rintro e w2 ⟨rfl,y⟩
                      have p:=(s.alloc _).trans0 y;have g:=y.heap (zad w1 (Obj.cells #[.string n1,.string n2,.int .i64 n3,.int .i64 n4,.int .i64 n5,.int .i64 n6] 99) _ rfl) id;clear C E t r D z A q B u a b f;have d:=p.heap l.out id;have av:=zaa d;obtain ⟨R,H,G,S,F,M,U,T,P,V,k,j,i⟩:=cells13 d;have ax:=zaa g;obtain ⟨O,N,J,K,I,Q⟩:=cells6 g;clear d)
         go_wp2_with (go_at_call 69;with_reducible refine (HA.out _).mono ?_;rintro e w3 ⟨rfl,a0⟩
                      have a1:=p.trans0 a0;have o:=a0.heap g id;clear R H G S F M U T P V k j i O N J K I Q;have n:=a1.heap l.out id;have aR:=zaa n;obtain ⟨a9,a5,af,ah,aa,ab,a3,a4,ae,ad,Z,X,Y⟩:=cells13 n;have aQ:=zaa o;obtain ⟨ag,a7,a8,ai,aj,a6⟩:=cells6 o;clear n)
         go_wp2_with (go_at_call 71;with_reducible refine (HD.out _).mono ?_;rintro e w4 ⟨rfl,an⟩
                      have ao:=a1.trans0 an;have am:=an.heap o id;clear a9 a5 af ah aa ab a3 a4 ae ad Z X Y ag a7 a8 ai aj a6;have al:=ao.heap l.out id;have b9:=zaa al;obtain ⟨aM,aH,aJ,aD,aG,aF,aA,aO,aC,az,aq,ar,ap⟩:=cells13 al;have b7:=zaa am;obtain ⟨aP,aB,aL,aK,aI,aE⟩:=cells6 am;clear al)
         go_ret;exact ⟨rb (HW.out.symm),a2.out.trans0 ao⟩
open Go Go.Proofs
theorem zat {P:Program} {C:World->Prop} {id:Nat} {Q:Exit->Act->World->Prop} {a:Act} {w:World} {l:List Oper} (hm:P.follows .mixedOrders=true) (hB:Region.lexB .any l.toArray=true)
 (hC:C w.drew) (h:wpQuiet P l.toArray C (fun a'=>∀ w',C w'->Q .normal a' w') l a):(Code.region id l.toArray true).wp P Q a w :=
 wp_region_quiet hm hB hC (by simpa using h)
end Go.Proofs.YthljnnjpmdgkoaaGreat