/- Own lemmas. -/
import Derived.Test.YtdgkdfmfoonbpaaGreatQ30
namespace Go.Proofs.YtdgkdfmfoonbpaaGreat
open Go Go.Proofs Go.RowKit
set_option maxRecDepth 100000
set_option maxHeartbeats 16000000
def wkA:ByteArray:=⟨#[97]⟩
def wkB:ByteArray:=⟨#[98]⟩
def wk1:ByteArray:=⟨#[49]⟩
def wk2:ByteArray:=⟨#[50]⟩
def wk3:ByteArray:=⟨#[51]⟩
def wkS1:St:=applyS newS [putO wkA wk1]
def wkD1:Doc:=applyD newS newD [putO wkA wk1]
def wkS2:St:=applyS wkS1 [putO wkB wk2]
def wkD2:Doc:=applyD wkS1 wkD1 [putO wkB wk2]
def wkS3:St:=applyS wkS2 [putO wkA wk3]
def wkD3:Doc:=applyD wkS2 wkD2 [putO wkA wk3]
theorem wkE1:applyE newS [putO wkA wk1]=0:=by kernel_rfl
theorem wkE2:applyE wkS1 [putO wkB wk2]=0:=by kernel_rfl
theorem wkE3:applyE wkS2 [putO wkA wk3]=0:=by kernel_rfl
theorem wkG1:Good 1 wkS1 wkD1:=Good.new.apply (by omega) (zbf wkE1).1 (fun o ho=>by rw [gI_ ho];decide)
theorem wkG2:Good 2 wkS2 wkD2:=wkG1.apply (by omega) (zbf wkE2).1 (fun o ho=>by rw [gI_ ho];decide)
theorem wkG3:Good 3 wkS3 wkD3:=wkG2.apply (by omega) (zbf wkE3).1 (fun o ho=>by rw [gI_ ho];decide)
def wkT1:Wt:=⟨wkA,⟨#[0]⟩,1,false,false,false⟩
def wkT2:Wt:=⟨wkA,⟨#[]⟩,0,false,false,false⟩
def wkH2:Hb:=openH (openH ⟨2,0,[]⟩ wkT1) wkT2
def wkH3:Hb:=takeH wkD2 wkH2 1
def wkH4:Hb:=takeH wkD3 wkH3 2
def wkH5:Hb:=feedH wkD3 wkH4
def wkH6:Hb:=takeH wkD3 wkH5 2
theorem wkO1:openE wkT1=0:=by kernel_rfl
theorem wkO2:openE wkT2=0:=by kernel_rfl
theorem wkR2:wkS2.rev=2:=by kernel_rfl
theorem wkX1:takeE wkH2 1=0:=by kernel_rfl
theorem wkX2:(takeB wkD2 wkH2 1).evs.length=2:=by kernel_rfl
theorem wkX3:(takeB wkD2 wkH2 1).rev=2:=by kernel_rfl
theorem wkY1:takeE wkH3 2=0:=by kernel_rfl
theorem wkY2:(takeB wkD3 wkH3 2).evs.length=0:=by kernel_rfl
theorem wkZ1:takeE wkH5 2=0:=by kernel_rfl
theorem wkZ2:(takeB wkD3 wkH5 2).evs.length=1:=by kernel_rfl
theorem wkZ3:(takeB wkD3 wkH5 2).rev=3:=by kernel_rfl
theorem wkF:wkH6.fed=3:=by kernel_rfl
theorem Both.put {TA:zao} (hT:TreeOk TA 1000000) {w:World} {h st k n:Nat} {S:St} {D:Doc} {H:Hb} {B:Nat->Prop} (a:Both TA w h st k n S D H B) (hk:k<=70) (x y:ByteArray) (ha:x.size<=3000) (he:applyE S [putO x y]=0) (hmono:D.rev<=(applyD S D [putO x y]).rev) :
 Calls Tryz.prog 39 #[.pointer (some ⟨st,0,none⟩),.string x,.string y] w fun e w'=>e=.returned (.tuple #[])/\∃ B',Both TA w' h st (k+1) n (applyS S [putO x y]) (applyD S D [putO x y]) H B'/\Fr B w w'/\(∀ b,B' b->B b\/w.heap.size<=b):=by
 obtain ⟨p,F,G,f,m,g,r,i,t⟩:=a;refine (zgg hT p.good hk w st G m x y ha he).mono ?_;rintro e w' ⟨rfl,d,b1,b2,j⟩;have s:=p.good.apply hk (zbf he).1 (fun o ho=>by rw [gI_ ho];show x.size<=_;omega);refine ⟨rfl,fun b=>F b\/d b,⟨⟨s,p.q,by have:=p.fed;omega,p.len,p.last⟩,F,d,f.fr b2 fun b c h2=>g b c h2,b1,fun b c h2=>?_,fun _=>.inl,fun _=>.inr,fun _ h=>h⟩,b2.mono fun b _ h=>i b h,fun b hb=>?_⟩
 · rcases j b h2 with l | l
   · exact g b c l
   have:=f.lt b c
   omega
 rcases hb with c | c
 · exact .inl (r b c)
 exact (j b c).imp (i b) id
theorem wkM:wkD2.rev<=wkD3.rev:=by rw [<-wkG2.rev,<-wkG3.rev];exact (by kernel_rfl:decide (wkS2.rev<=wkS3.rev)=true) |> of_decide_eq_true
theorem wkX4:(takeB wkD2 wkH2 1).cancel=false:=by kernel_rfl
theorem wkY3:(takeB wkD3 wkH3 2).cancel=false:=by kernel_rfl
theorem wkY4:(takeB wkD3 wkH3 2).rev=2:=by kernel_rfl
theorem wkZ4:(takeB wkD3 wkH5 2).cancel=false:=by kernel_rfl
section
variable {TA:zao} (hT:TreeOk TA 1000000) {W:World} {h st:Nat} {B:Nat->Prop}
include hT
theorem zzz (a:Both TA W h st 2 0 wkS2 wkD2 ⟨2,0,[]⟩ B):Calls Tryz.prog 12 #[.pointer (some ⟨h,0,none⟩),.agg #[.string ⟨#[97]⟩,.string ⟨#[0]⟩,.int .i64 1,.bool false,.bool false,.bool false]] W fun e w' =>
 e=.returned (.tuple #[.int .i64 1,.int .i64 0])/\∃ B',Both TA w' h st 2 1 wkS2 wkD2 (openH ⟨2,0,[]⟩ wkT1) B'/\Fr B W w'/\∀ b,B' b->B b\/W.heap.size<=b:=by
 have h:=a.open hT (by omega) (by omega) wkT1 (by decide) (by kernel_rfl);rw [wkO1] at h;exact h
theorem zzy (a:Both TA W h st 2 1 wkS2 wkD2 (openH ⟨2,0,[]⟩ wkT1) B):Calls Tryz.prog 12 #[.pointer (some ⟨h,0,none⟩),.agg #[.string ⟨#[97]⟩,.string ⟨#[]⟩,.int .i64 0,.bool false,.bool false,.bool false]] W fun e w' =>
 e=.returned (.tuple #[.int .i64 2,.int .i64 0])/\∃ B',Both TA w' h st 2 2 wkS2 wkD2 wkH2 B'/\Fr B W w'/\∀ b,B' b->B b\/W.heap.size<=b:=by
 have h:=a.open hT (by omega) (by omega) wkT2 (by decide) (by kernel_rfl);rw [wkO2] at h;exact h
theorem zzx (a:Both TA W h st 2 2 wkS2 wkD2 wkH2 B):Calls Tryz.prog 14 #[.pointer (some ⟨h,0,none⟩),.int .i64 1] W fun e w' =>
 ∃ x c,e=.returned (.tuple #[.agg #[.slice x 2 c,.int .i64 2,.bool false],.int .i64 0])/\∃ B',Both TA w' h st 2 2 wkS2 wkD2 wkH3 B'/\Fr B W w'/\∀ b,B' b->B b\/W.heap.size<=b:=by
 refine (a.take hT (by omega) 1 (by kernel_rfl)).mono ?_;rintro e w' ⟨v,rfl,f,B',b1,b2,d,_⟩;obtain ⟨x,c,rfl,_⟩:=f.shape;exact ⟨x,c,by unfold batV;rw [wkX1,wkX2,wkX3,wkX4],B',b1,b2,d⟩
theorem zzw (a:Both TA W h st 3 2 wkS3 wkD3 wkH3 B):Calls Tryz.prog 14 #[.pointer (some ⟨h,0,none⟩),.int .i64 2] W fun e w' =>
 ∃ x c,e=.returned (.tuple #[.agg #[.slice x 0 c,.int .i64 2,.bool false],.int .i64 0])/\∃ B',Both TA w' h st 3 2 wkS3 wkD3 wkH4 B'/\Fr B W w'/\∀ b,B' b->B b\/W.heap.size<=b:=by
 refine (a.take hT (by omega) 2 (by kernel_rfl)).mono ?_;rintro e w' ⟨v,rfl,f,B',b1,b2,d,_⟩;obtain ⟨x,c,rfl,_⟩:=f.shape;exact ⟨x,c,by unfold batV;rw [wkY1,wkY2,wkY3,wkY4],B',b1,b2,d⟩
theorem zzv (a:Both TA W h st 3 2 wkS3 wkD3 wkH5 B):Calls Tryz.prog 14 #[.pointer (some ⟨h,0,none⟩),.int .i64 2] W fun e w' =>
 ∃ x c,e=.returned (.tuple #[.agg #[.slice x 1 c,.int .i64 3,.bool false],.int .i64 0])/\∃ B',Both TA w' h st 3 2 wkS3 wkD3 wkH6 B'/\Fr B W w'/\∀ b,B' b->B b\/W.heap.size<=b:=by
 refine (a.take hT (by omega) 2 (by kernel_rfl)).mono ?_;rintro e w' ⟨v,rfl,f,B',b1,b2,d,_⟩;obtain ⟨x,c,rfl,_⟩:=f.shape;exact ⟨x,c,by unfold batV;rw [wkZ1,wkZ2,wkZ3,wkZ4],B',b1,b2,d⟩
theorem wkPut3 (a:Both TA W h st 2 2 wkS2 wkD2 wkH3 B):Calls Tryz.prog 39 #[.pointer (some ⟨st,0,none⟩),.string ⟨#[97]⟩,.string ⟨#[51]⟩] W fun e w' =>
 e=.returned (.tuple #[])/\∃ B',Both TA w' h st 3 2 wkS3 wkD3 wkH3 B'/\Fr B W w'/\∀ b,B' b->B b\/W.heap.size<=b:=a.put hT (by omega) wkA wk3 (by decide) wkE3 wkM
theorem wkFeed (a:Both TA W h st 3 2 wkS3 wkD3 wkH4 B):Calls Tryz.prog 13 #[.pointer (some ⟨h,0,none⟩)] W fun e w' =>
 e=.returned (.tuple #[])/\∃ B',Both TA w' h st 3 2 wkS3 wkD3 wkH5 B'/\Fr B W w'/\∀ b,B' b->B b\/W.heap.size<=b:=a.feed hT (by omega) (by omega)
omit hT in
theorem wkFed (a:Both TA W h st 3 2 wkS3 wkD3 wkH6 B):Calls Tryz.prog 16 #[.pointer (some ⟨h,0,none⟩)] W fun e w'=>e=.returned (.int .i64 3)/\W=w':=by
 have h:=a.fedC;rw [wkF] at h;exact h
end
theorem newer {B B':Nat->Prop} {w0 w1:World} (h0:∀ b,B b->w0.heap.size<=b) (h1:∀ b,B' b->B b\/w1.heap.size<=b) (h:w0.heap.size<=w1.heap.size):∀ b,B' b->w0.heap.size<=b:=fun b hb=>(h1 b hb).elim (h0 b) fun x=>by omega
theorem frNew {B:Nat->Prop} {w0 w1 w2:World} (h0:∀ b,B b->w0.heap.size<=b) (f1:Fr No w0 w1) (f2:Fr B w1 w2):Fr No w0 w2:=f1.trans f2 fun j hj x=>by have:=h0 j x;omega
theorem zlu {TA:zao} (hT:TreeOk TA 1000000) (w:World):Calls Tryz.prog 10 #[] w fun e w'=>e=.returned (.bool true)/\Fr No w w':=by
 have p1:=fun W s F hS=>zgg hT Good.new (by omega) W s F hS wkA wk1 (by decide) wkE1;have p2:=fun W s F hS=>zgg hT wkG1 (by omega) W s F hS wkB wk2 (by decide) wkE2;unfold wkA wk1 at p1;unfold wkB wk2 at p2;have P1:=H_ p1;have P2:=H_ p2;clear p1 p2;go_enter Tryz.func10,Tryz.ntmps10;go_upto_region 2 with (go_at_call 19;refine (zge hT _).mono ?_;rintro e w1 ⟨s,rfl,F1,s1,f1,n1⟩);go_upto_region 3 with (go_at_call 39;refine (P1.out _ _ _ s1).mono ?_;rintro e w2 ⟨rfl,F2,s2,f2,n2⟩);have k1:=frNew (fun b hb=>n1 b hb) f1 f2;have k2:=newer n1 n2 f1.size;have K1:=H_ k1;have K2:=H_ k2;clear k1 k2 f1 n1 s1 f2 n2;have md:=fun W (G:Nat->Prop) (hS:zam TA W s wkS2 G)=>Both.made hT (k:=2) (D:=wkD2) wkG2 hS (by rw [wkR2];decide);simp only [wkR2] at md;have MD:=H_ md;clear md
 go_upto_region 5 with (first
  | (go_at_call 39;refine (P2.out _ _ _ s2).mono ?_;rintro e w3 ⟨rfl,F3,s3,f3,n3⟩)
  | (go_at_call 11;refine (MD.out _ _ s3).mono ?_;rintro e w4 ⟨h,rfl,B4,b4,f4,n4⟩))
 have g4:=(frNew K2.out K1.out f3).trans0 f4;have m4:=newer (newer K2.out n3 K1.out.size) n4 (frNew K2.out K1.out f3).size;have G4:=H_ g4;have M4:=H_ m4;have ai:=H_ b4;clear g4 m4 b4 f4 n4 s3 f3 n3 s2 MD P1 P2;go_upto_region 8 with (go_at_call 12;(with_reducible refine (zzz hT ai.out).mono ?_);rintro e w5 ⟨rfl,B5,b5,f5,n5⟩);have G5:=H_ (frNew M4.out G4.out f5);have M5:=H_ (newer M4.out n5 G4.out.size);have aj:=H_ b5;clear b5 f5 n5;go_upto_region 9 with (go_at_call 12;(with_reducible refine (zzy hT aj.out).mono ?_);rintro e w6 ⟨rfl,B6,b6,f6,n6⟩);have G6:=H_ (frNew M5.out G5.out f6);have M6:=H_ (newer M5.out n6 G5.out.size);have ak:=H_ b6;clear b6 f6 n6;go_upto_region 10 with (go_at_call 14;(with_reducible refine (zzx hT ak.out).mono ?_);rintro e w7 ⟨xa,xc,rfl,B7,b7,f7,n7⟩)
 have a5:=zad w7 (Obj.cells #[.slice xa 2 xc,.int .i64 2,.bool false] 43) _ rfl;have n:=(Fr.refl No w7).alloc (Obj.cells #[.slice xa 2 xc,.int .i64 2,.bool false] 43);have a7:∀ b,B7 b->b<w7.heap.size:=b7.lt hT;have al:=H_ (b7.fr0 hT n);have G8:=H_ ((frNew M6.out G6.out f7).trans0 n);have M8:=H_ (newer M6.out n7 G6.out.size);have ax:=n.size;generalize w7.alloc (Obj.cells #[.slice xa 2 xc,.int .i64 2,.bool false] 43)=W8 at *;generalize w7.heap.size=x at *;have a1:=H_ a7;have X:=H_ a5;clear b7 f7 n7 n a7 a5 ax;go_upto_region 11 with (go_at_call 39;(with_reducible refine (wkPut3 hT al.out).mono ?_);rintro e w9 ⟨rfl,B9,b9,f9,n9⟩);have aw:x<W8.heap.size:=zab X.out;have a6:=f9.heap X.out fun h=>by have:=a1.out x h;omega
 have a8:∀ b,B9 b->b≠x:=fun b hb e=>by
  rcases n9 b hb with h | h
  · have:=a1.out b h;omega
  omega
 have Y:=H_ a6;have a2:=H_ a8;have am:=H_ b9;have G9:=H_ (frNew M8.out G8.out f9);have M9:=H_ (newer M8.out n9 G8.out.size);clear b9 f9 n9 a6 a8 aw;go_upto_region 12 with (go_at_call 14;(with_reducible refine (zzw hT am.out).mono ?_);rintro e j ⟨ya,yc,rfl,Q,M,N,O⟩);have B:=N.heap Y.out fun h=>a2.out x h rfl
 have J:∀ b,Q b->b≠x:=fun b hb e=>by
  rcases O b hb with h | h
  · exact a2.out b h e
  have:=zab Y.out;omega
 have A:=zad j (Obj.cells #[.slice ya 0 yc,.int .i64 2,.bool false] 43) _ rfl;have f:=(Fr.refl No j).alloc (Obj.cells #[.slice ya 0 yc,.int .i64 2,.bool false] 43);have L:∀ b,Q b->b<j.heap.size:=M.lt hT;have R:=H_ (M.fr0 hT f);have U:=H_ ((frNew M9.out G9.out N).trans0 f);have a0:=H_ (newer M9.out O G9.out.size);have q:=H_ (f.heap B id);generalize j.alloc (Obj.cells #[.slice ya 0 yc,.int .i64 2,.bool false] 43)=bk at *;generalize j.heap.size=y at *;have t:=H_ J;have v:=H_ L;have r:=H_ A;clear M N O f J L A B;go_upto_region 13 with (go_at_call 13;(with_reducible refine (wkFeed hT R.out).mono ?_);rintro e bm ⟨rfl,ah,a3,l,P⟩);have C:=l.heap q.out fun h=>t.out x h rfl
 have H:=l.heap r.out fun h=>by have:=v.out y h;omega
 have K:∀ b,ah b->b≠x/\b≠y:=fun b hb=>by
  have h1:=zab q.out;have h2:=zab r.out;rcases P b hb with h | h
  · exact ⟨t.out b h,fun e=>by have:=v.out b h;omega⟩
  exact ⟨by omega,by omega⟩
 have V:=H_ C;have Z:=H_ H;have u:=H_ K;have S:=H_ a3;have an:=H_ (frNew a0.out U.out l);have ap:=H_ (newer a0.out P U.out.size);clear a3 l P C H K;go_upto_region 14 with (go_at_call 14;(with_reducible refine (zzv hT S.out).mono ?_);rintro e o ⟨za,zc,rfl,bh,a4,m,az⟩);have E:=m.heap V.out fun h=>(u.out x h).1 rfl;have I:=m.heap Z.out fun h=>(u.out y h).2 rfl;have d:=zad o (Obj.cells #[.slice za 1 zc,.int .i64 3,.bool false] 43) _ rfl;have a:=(Fr.refl No o).alloc (Obj.cells #[.slice za 1 zc,.int .i64 3,.bool false] 43);have T:=H_ (a4.fr0 hT a);have ao:=H_ ((frNew ap.out an.out m).trans0 a);have c:=a.heap E id;have g:=a.heap I id
 generalize o.alloc (Obj.cells #[.slice za 1 zc,.int .i64 3,.bool false] 43)=i at *;generalize o.heap.size=z at *;clear a4 m az a E I;have x0:i.cell? ⟨x,0,none⟩=some (.slice xa 2 xc):=cellAt c 0 rfl;have x1:i.cell? ⟨x,1,none⟩=some (.int .i64 2):=cellAt c 1 rfl;have y0:i.cell? ⟨y,0,none⟩=some (.slice ya 0 yc):=cellAt g 0 rfl;have z0:i.cell? ⟨z,0,none⟩=some (.slice za 1 zc):=cellAt d 0 rfl;have z1:i.cell? ⟨z,1,none⟩=some (.int .i64 3):=cellAt d 1 rfl;have lx:=zab c;have ly:=zab g;have lz:=zab d;clear c g d;go_wp2_with (go_at_call 16;(with_reducible refine (wkFed T.out).mono ?_);rintro e bn ⟨rfl,rfl⟩);go_ret;exact ⟨rfl,ao.out⟩
theorem zzg (x:Ev):∀ u∈evC x,u.oneCell'=true:=fun u hu=>zwy (L:=[x]) (by simpa using hu)
theorem zva {X:World} {b:Nat} {a0 a1 a2 a3:Value} (hk:X.heap[b]?=some (.cells #[a0,a1,a2,a3] 78 (0,0))) (r m kv ev:Value) :
 ∃ Z,((((X.setCell ⟨b,0,none⟩ r).setCell ⟨b,1,none⟩ m).setCell ⟨b,2,none⟩ kv).setCell ⟨b,3,none⟩ ev)=Z/\Z.heap[b]?=some (.cells #[r,m,kv,ev] 78 (0,0))/\Fr (fun x=>x=b) X Z:=by
 have a:=zac hk 0 r;have c:=zac a 1 m;have d:=zac c 2 kv;have e:=zac d 3 ev;refine ⟨_,rfl,by rw [e];simp,((((Fr.refl (fun x=>x=b) X).setAt 0 r).setAt 1 m).setAt 2 kv).setAt 3 ev⟩
def stateV (r m:Int) (kv ev:Value):Value:=.agg #[.int .i64 r,.int .i64 m,kv,ev]
theorem zqq {TA:zao} {N:Nat} (hT:TreeOk TA N) {n:Nat} (hn:n<=1099511627) (w:World) (s:Nat) (S:St) (F:Nat->Prop) (hS:zam TA w s S F) (hok:StOk n S) (hN:S.T.length<=1099511627) :
 Calls Tryz.prog 30 #[.pointer (some ⟨s,0,none⟩)] w fun e w'=>∃ kv ev,e=.returned (stateV S.rev S.mark kv ev)/\SlF w' 70 6 kvC kv (zap S S.T S.mark)/\SlF w' 72 13 evC ev S.events/\Fr No w w'/\(∀ b,kv.ownBlock=some b->w.heap.size<=b)/\(∀ b,ev.ownBlock=some b->w.heap.size<=b):=by
 have am:=fun W hW at_ H hH=>zix hT hn W s S F hW hok at_ S.mark H hH;have bQ:=H_ hS;obtain ⟨t,p,ev,hp,FT,FH,a,hF⟩:=hS;have c0:=a.obj.cell 0 rfl;have c3:=a.obj.cell 3 rfl;have c4:=a.obj.cell 4 rfl;have c5:=a.obj.cell 5 rfl;have ls:=a.obj.lt;have bg:=a.events;have cv:=hok.ev;have ao:=fun W (h:Fr No w W)=>hT.len (w:=W) (t:=t) (T:=S.T) (F:=FT) (hT.fr a.tree h fun _ _ s=>s);have a0:=fun W (h:Fr No w W)=>hT.range (w:=W) (t:=t) (T:=S.T) (F:=FT) ⟨#[]⟩ ⟨#[]⟩ (hT.fr a.tree h fun _ _ s=>s);simp only [zgz] at a0;have b8:=H_ ao;have b9:=H_ a0;have HH:=H_ am;have bC:=H_ hok.id;have bw:=H_ bg;clear a hF bg ao a0 am;go_enter Tryz.func30,Tryz.ntmps30;go_upto_region 3 with fail
 have U:Fr No w (w.alloc (Obj.cells #[.int .i64 0,.int .i64 0,.slice none 0 0,.slice none 0 0] 78)):=(Fr.refl No w).alloc _;have aF:=zad w (Obj.cells #[.int .i64 0,.int .i64 0,.slice none 0 0,.slice none 0 0] 78) _ rfl;generalize w.alloc (Obj.cells #[.int .i64 0,.int .i64 0,.slice none 0 0,.slice none 0 0] 78)=W0 at *;have d3:=U.cell0 c3;have d4:=U.cell0 c4;have d7:s<W0.heap.size:=nL_ ls U.size
 go_region
 go_upto_region 4 with fail;have aG:((W0.alloc (Obj.cells #[.int .i64 S.rev,.int .i64 S.mark,.slice none 0 0,.slice none 0 0] 78)).drew).heap[W0.heap.size]?=some (.cells #[.int .i64 S.rev,.int .i64 S.mark,.slice none 0 0,.slice none 0 0] 78 (0,0)):=zad _ _ _ rfl;have ag:((W0.alloc (Obj.cells #[.int .i64 S.rev,.int .i64 S.mark,.slice none 0 0,.slice none 0 0] 78)).drew).heap[w.heap.size]?=some (.cells #[.int .i64 0,.int .i64 0,.slice none 0 0,.slice none 0 0] 78 (0,0)):=zar aF _;have V:Fr No w ((W0.alloc (Obj.cells #[.int .i64 S.rev,.int .i64 S.mark,.slice none 0 0,.slice none 0 0] 78)).drew):=(U.alloc _).drew;have cj:=zab aF;clear d3 d4 U aF;generalize (W0.alloc (Obj.cells #[.int .i64 S.rev,.int .i64 S.mark,.slice none 0 0,.slice none 0 0] 78)).drew=W1 at *;have d0:=V.cell0 c0
 have d8:s<W1.heap.size:=nL_ ls V.size
 go_region_held3 (fun W=>W.cell? ⟨s,0,none⟩=some (.pointer (some ⟨t,0,none⟩)))
  (first | assumption | exact a7.cell0 d0)
  (first
    | (go_at_call 59;refine (b8.out _ (V.trans0 (by (repeat (first | with_reducible exact Fr.refl _ _ | with_reducible refine Fr.drew ?_));done))).mono ?_;rintro e w' ⟨rfl,rfl⟩)
    | (go_at_call 58;refine (b9.out _ (V.trans0 (by (repeat (first | with_reducible exact Fr.refl _ _ | with_reducible refine Fr.drew ?_));done))).mono ?_;rintro e w7 ⟨pv,rfl,aI,a7,bj⟩;obtain ⟨pa,bs,rfl,cU,cV,bi⟩:=aI.shape))
 have D:Fr No W1 w7:=(by first | exact a7 | exact (Fr.refl No W1).drew.trans0 a7);have bf:=D.heap aG id;have ai:=D.heap ag id;have al:Fr No w w7:=V.trans0 D;have cx:=D.size;have l1:=zab aG;have au:∀ b,(Value.slice pa S.T.length bs).ownBlock=some b->W1.heap.size<=b:=fun b hb=>by have:=bj b hb;have h':W1.heap.size<=b:=this;omega
 have aX:=H_ bf;have aW:=H_ ai;have bz:=H_ al;have bG:=H_ aI;have bF:=H_ au;have bE:=H_ bi;have bR:∃ St1:Nat,W0.heap.size=St1/\w.heap.size<St1/\St1<w7.heap.size:=⟨_,rfl,cj,by omega⟩;obtain ⟨f,bl,cy,cz⟩:=bR;rw [bl] at aX;have cA:f<W1.heap.size:=by omega
 clear bf ai al aI au bi aG ag bj a7 D d0;obtain ⟨i0,bU,ca,cb,cc⟩:=info_parts info57;have cu:S.T.length<=1099511627:=hN;have cn:=H_ hok;rw [bl];go_wp2
 go_loopg [31] S.T.length (fun g s31 wr=>∃ (i:Nat) (o:Value),s31=.int .i64 i/\i+g=S.T.length/\Hid (wr.heap[f]?=some (.cells #[.int .i64 S.rev,.int .i64 S.mark,o,.slice none 0 0] 78 (0,0)))/\Hid (SlF wr 70 6 kvC o (zap S (S.T.take i) S.mark))/\Hid (Fr (fun b=>b=f) w7 wr)/\Hid (∀ b,o.ownBlock=some b->w7.heap.size<=b))
 case atStart=>exact ⟨0,_,rfl,by simp,aX,H_ (SlF.nil _ _ _ _),H_ (Fr.refl _ _),H_ (by simp [Value.ownBlock])⟩
 case round =>
  obtain ⟨i,o,rfl,hi,E,HO,L,B⟩:=hrel;have d9:=zab E.out;have O:Fr No w wr:=bz.out.trans L.out fun b hb e=>by have G:b=f:=e;omega
  have a5:=H_ O;have r0:=O.cell0 c0;have r4:=O.cell0 c4;have r5:=O.cell0 c5;have ci:s<wr.heap.size:=nL_ ls O.size;have b2:=cellAt E.out 2 rfl;have b3:=cellAt E.out 3 rfl;have bO:∀ j,wr.frozen? ⟨f,j,none⟩=false:=fun j=>by unfold World.frozen?;dsimp only;rw [E.out];simp
  obtain ⟨oa,z,rfl,bX,cS,bY⟩:=HO.out.shape;clear bY O
  cases gk with
  | zero =>
    have bV:¬ (i:Int)<(S.T.length:Int):=(by omega);go_upto_region 11 with fail;have c6:S.T.take i=S.T:=List.take_of_length_le (by omega);rw [c6] at HO B bX b2 E;obtain ⟨j0,bW,c7,c8,c9⟩:=info_parts info73;have cR:=hok.ev;have bn:=a5.out.drew;have aK:=bw.out.fr0 bn;obtain ⟨ea,bc,rfl,cP,cQ,bS⟩:=aK.shape;have bI:=H_ aK;have bD:=H_ (show (Value.slice oa (zap S S.T S.mark).length z).ownBlock≠some f from fun h=>by have:=B.out f h;omega);clear aK bS bn
    go_region_law (refine zbm rfl _ _ 41 rfl 72 j0 _ 13 136 Tryz.underlying41 bW c7 c8 c9 rfl (by decide) zaa zzg (.slice none 0 0) (.slice ea S.events.length bc) [] S.events rfl rfl (SlF.nil _ _ _ _) bI.out (by unfold maxLen;simp;try omega) (by simp;try omega) ?_;intro v4 K P M Q;obtain ⟨va,m,rfl,_,_,_⟩:=P.shape;have aJ:Fr No wr.drew K:=M.mono (fun b _ h=>by simp [Value.ownBlock] at h);have c:=aJ.heap (show wr.drew.heap[f]?=_ from E.out) id;have v3:K.cell? ⟨f,3,none⟩=some (.slice none 0 0):=(by simp [World.cell?,c]);have cl:K.frozen? ⟨f,3,none⟩=false:=(by simp [World.frozen?,c]);have l4:=zab c;have aC:=H_ P;have aB:=H_ aJ;have aw:=H_ c;have ax:=H_ Q;clear P M Q aJ c)
    all_goals
     have v:=zac aw.out 3 (.slice va S.events.length m);have l:Fr (fun b=>b=f) K (K.setCell ⟨f,3,none⟩ (.slice va S.events.length m)):=(Fr.refl _ K).setAt 3 _;have aj:=L.out.heap aW.out (fun e=>by have G:w.heap.size=f:=e;omega);have ah:=aB.out.heap (show wr.drew.heap[w.heap.size]?=_ from aj) (fun h=>h);have C:=l.heap ah (fun e=>by have G:w.heap.size=f:=e;omega)
     have ak:=aC.out.fr l fun b hb e=>by
      have G:b=f:=e;have x:=ax.out b hb;rcases x with x | x
      · simp [Value.ownBlock] at x
      have h2:wr.heap.size<=b:=x
      omega
     have an:=((HO.out.fr0 (Fr.refl No wr).drew).fr0 aB.out).fr l fun b hb e=>by
      have G:b=f:=e;exact bD.out (by rw [<-G];exact hb)
     have bk:Fr No w (K.setCell ⟨f,3,none⟩ (.slice va S.events.length m)):=(a5.out.drew.trans0 aB.out).trans l fun b hb e=>by
      have G:b=f:=e;omega
     generalize K.setCell ⟨f,3,none⟩ (.slice va S.events.length m)=W5 at *;have bZ:∃ aP,W5.heap[f]?=some (.cells aP 78 (0,0))/\aP=#[.int .i64 S.rev,.int .i64 S.mark,.slice oa (zap S S.T S.mark).length z,.slice va S.events.length m]:=⟨_,v,by simp⟩;obtain ⟨aP,v,rfl⟩:=bZ;obtain ⟨s0,s1,s2,s3⟩:=cells4 v;obtain ⟨t0,t1,t2,t3⟩:=cells4 C;have tf:∀ i,W5.frozen? ⟨w.heap.size,i,none⟩=false:=fun i=>by simp [World.frozen?,C]
     have db:=zab C;have d2:=zab v;obtain ⟨Z,hZ,a4,ad⟩:=zva C (.int .i64 S.rev) (.int .i64 S.mark) (.slice oa (zap S S.T S.mark).length z) (.slice va S.events.length m);have b7:=H_ an;have b0:=H_ ak;have bH:=H_ bk;have HZ:=H_ hZ;have bK:=H_ a4;have aD:=H_ ad;clear v l aj ah C ak an bk hZ a4 ad v3 cl l4;go_wp2;rw [HZ.out];have cW:=a5.out.size;refine bodyPost_ret (results_cell_row rfl _ _ w.heap.size 78 _ (0,0) _ rfl bK.out Tryz.underlying78 rfl (by kernel_rfl)) rfl ⟨.slice oa (zap S S.T S.mark).length z,.slice va S.events.length m,rfl,?_,?_,?_,fun b hb=>?_,fun b hb=>?_⟩
     · refine b7.out.fr aD.out fun b hb e=>?_
       have G:b=w.heap.size:=e;have x:=B.out b hb;omega
     · refine (by simpa using b0.out:SlF W5 72 13 evC (.slice va S.events.length m) S.events).fr aD.out fun b hb e=>?_
       have G:b=w.heap.size:=e;rcases ax.out b hb with x | x
       · simp [Value.ownBlock] at x
       have h2:wr.heap.size<=b:=x
       omega
     · exact bH.out.trans aD.out fun b hb e=>by
        have G:b=w.heap.size:=e;omega
     · have x:=B.out b hb
       omega
     rcases ax.out b hb with x | x
     · simp [Value.ownBlock] at x
     have h2:wr.heap.size<=b:=x
     omega
  | succ g =>
    have bV:(i:Int)<(S.T.length:Int):=(by omega);obtain ⟨gb,go,rfl⟩:=bE.out (by omega);obtain ⟨q,hq⟩:∃ q,S.T[i]?=some q:=⟨_,gG_ (by omega)⟩;have a1:=bG.out.fr L.out (fun b hb e=>by have G:b=f:=e;have:=bF.out b hb;omega);have x0:=a1.cell0 zae i hq rfl;have x1:=a1.cell zae i 1 hq rfl;obtain ⟨H,hH⟩:=bC.out q (gM_ hq);have ar:oneL S S.mark q=if (hadH H S.mark).2 then some (hadH H S.mark).1 else none:=(by unfold oneL;rw [hH])
    have a2:zap S (S.T.take (i+1)) S.mark=zap S (S.T.take i) S.mark++(oneL S S.mark q).toList:=by
     unfold zap;rw [gK_,hq,List.filterMap_append];cases h:oneL S S.mark q <;> simp [h]
    have bb:=H_ a2;have az:=H_ ar;have a6:=H_ hH;have HQ:=H_ hq;clear a2 ar hH hq a1;rcases hr:hadH H S.mark with ⟨⟨r1,r2,r3,I,J,r6⟩,rb⟩
    rw [hr] at az;have HR:=H_ hr;clear hr;have cT:(zap S (S.T.take i) S.mark).length<=S.T.length:=nT_ (List.length_filterMap_le _ _) (by simp;omega);go_upto_region 7 with fail;have aH:=zad wr (Obj.cells #[.string q.1,.int .i64 q.2] 125) _ rfl;have a8:Fr No wr (wr.alloc (Obj.cells #[.string q.1,.int .i64 q.2] 125)):=(Fr.refl No wr).alloc _;generalize wr.alloc (Obj.cells #[.string q.1,.int .i64 q.2] 125)=d at *;have k1:=cellAt aH 1 rfl;have k4:=a8.cell0 r4;have lk:=zab aH;have ch:s<d.heap.size:=nL_ ci a8.size;have b5:=H_ a8;clear a8 aH;have X:Fr No d (d.alloc (Obj.cells #[.string ⟨#[]⟩,.string ⟨#[]⟩,.int .i64 0,.int .i64 0,.int .i64 0,.int .i64 0] 70)):=(Fr.refl No d).alloc _
    have bo:(d.alloc (Obj.cells #[.string ⟨#[]⟩,.string ⟨#[]⟩,.int .i64 0,.int .i64 0,.int .i64 0,.int .i64 0] 70)).heap[d.heap.size]?=some (.cells #[.string ⟨#[]⟩,.string ⟨#[]⟩,.int .i64 0,.int .i64 0,.int .i64 0,.int .i64 0] 70 (0,0)):=zad _ _ _ rfl;have af:=X.cell0 k4;have ae:=X.cell0 k1;have b1:d.cell? ⟨s,4,none⟩=some (.int .i64 S.mark)/\d.cell? ⟨wr.heap.size,1,none⟩=some (.int .i64 q.2):=⟨k4,k1⟩;have b2:d.drew.cell? ⟨s,4,none⟩=some (.int .i64 S.mark)/\d.drew.cell? ⟨wr.heap.size,1,none⟩=some (.int .i64 q.2):=⟨k4,k1⟩;have b3:=And.intro af ae
    have b4:(d.alloc (Obj.cells #[.string ⟨#[]⟩,.string ⟨#[]⟩,.int .i64 0,.int .i64 0,.int .i64 0,.int .i64 0] 70)).drew.cell? ⟨s,4,none⟩=some (.int .i64 S.mark)/\(d.alloc (Obj.cells #[.string ⟨#[]⟩,.string ⟨#[]⟩,.int .i64 0,.int .i64 0,.int .i64 0,.int .i64 0] 70)).drew.cell? ⟨wr.heap.size,1,none⟩=some (.int .i64 q.2):=⟨af,ae⟩;have x:=bQ.out.fr0 hT (a5.out.trans0 b5.out);have h2:=x.fr0 hT (Fr.refl No d).drew;have h3:=x.fr0 hT X;have h4:=h3.fr0 hT (Fr.refl No _).drew;have C1:=H_ (HH.out _ x q.2 H a6.out);have C2:=H_ (HH.out _ h2 q.2 H a6.out);have C3:=H_ (HH.out _ h3 q.2 H a6.out);have C4:=H_ (HH.out _ h4 q.2 H a6.out);have bL:=H_ bo;have b6:=H_ X;clear x h2 h3 h4 bo X
    go_cut [6,7] (fun s6 s7 wx=>∃ b:Nat,s6=.pointer (some ⟨b,0,none⟩)/\s7=.bool rb/\Hid (wx.heap[b]?=some (.cells #[.string r1,.string r2,.int .i64 r3,.int .i64 I,.int .i64 J,.int .i64 r6] 70 (0,0)))/\Hid (Fr No d wx))
    case first =>
     go_region_held3 (fun W=>W.cell? ⟨s,4,none⟩=some (.int .i64 S.mark)/\W.cell? ⟨wr.heap.size,1,none⟩=some (.int .i64 q.2))
      (first | with_reducible exact b1 | with_reducible exact b2 | with_reducible exact b3 | with_reducible exact b4 | with_reducible exact A | with_reducible exact kv | with_reducible exact ku | with_reducible exact kt | with_reducible exact br | with_reducible exact cf | with_reducible exact ce | with_reducible exact cd)
      (first
        | (go_at_call 60;first | refine C1.out.mono ?_ | refine C2.out.mono ?_
           rintro e r ⟨rfl,y⟩;rw [HR.out];unfold zcm kvV;have A:r.cell? ⟨s,4,none⟩=some (.int .i64 S.mark)/\r.cell? ⟨wr.heap.size,1,none⟩=some (.int .i64 q.2):=⟨y.cell0 k4,y.cell0 k1⟩;have ab:Fr No r (r.alloc (Obj.cells #[.string ⟨#[]⟩,.string ⟨#[]⟩,.int .i64 0,.int .i64 0,.int .i64 0,.int .i64 0] 70)):=(Fr.refl No r).alloc _;have kv:=And.intro (ab.cell0 A.1) (ab.cell0 A.2);have Y:Fr No r r.drew:=(Fr.refl No r).drew;have br:=And.intro (Y.cell0 A.1) (Y.cell0 A.2);have cf:=And.intro (ab.drew.cell0 A.1) (ab.drew.cell0 A.2);have aa:Fr No r (r.alloc (Obj.cells #[.string r1,.string r2,.int .i64 r3,.int .i64 I,.int .i64 J,.int .i64 r6] 70)):=(Fr.refl No r).alloc _;have ku:=And.intro (aa.cell0 A.1) (aa.cell0 A.2);have ce:=And.intro (aa.drew.cell0 A.1) (aa.drew.cell0 A.2)
           have aA:Hid (Fr No d r):=by first | exact H_ y | exact H_ ((Fr.refl No d).drew.trans0 y))
        | (go_at_call 60;first | refine C3.out.mono ?_ | refine C4.out.mono ?_
           rintro e r ⟨rfl,y⟩;rw [HR.out];unfold zcm kvV;have A:r.cell? ⟨s,4,none⟩=some (.int .i64 S.mark)/\r.cell? ⟨wr.heap.size,1,none⟩=some (.int .i64 q.2):=⟨y.cell0 af,y.cell0 ae⟩;have a3:r.heap[d.heap.size]?=some (.cells #[.string ⟨#[]⟩,.string ⟨#[]⟩,.int .i64 0,.int .i64 0,.int .i64 0,.int .i64 0] 70 (0,0)):=y.heap bL.out (fun h=>h);obtain ⟨z0,z1,z2,z3,z4,z5⟩:=cells6 a3;have zf:∀ i,r.frozen? ⟨d.heap.size,i,none⟩=false:=fun i=>by unfold World.frozen?;dsimp only;rw [a3];simp
           have dc:=zab a3;have l:Fr (fun b=>b=d.heap.size) r ((((((r.setCell ⟨d.heap.size,0,none⟩ (.string r1)).setCell ⟨d.heap.size,1,none⟩ (.string r2)).setCell ⟨d.heap.size,2,none⟩ (.int .i64 r3)).setCell ⟨d.heap.size,3,none⟩ (.int .i64 I)).setCell ⟨d.heap.size,4,none⟩ (.int .i64 J)).setCell ⟨d.heap.size,5,none⟩ (.int .i64 r6)):=((((((Fr.refl _ r).setAt 0 _).setAt 1 _).setAt 2 _).setAt 3 _).setAt 4 _).setAt 5 _;have kt:=And.intro (l.cell A.1 (fun e=>by have G:s=d.heap.size:=e;omega)) (l.cell A.2 (fun e=>by have G:wr.heap.size=d.heap.size:=e;omega));have Y:Fr No r r.drew:=(Fr.refl No r).drew;have br:=And.intro (Y.cell0 A.1) (Y.cell0 A.2)
           have cd:=And.intro (l.drew.cell A.1 (fun e=>by have G:s=d.heap.size:=e;omega)) (l.drew.cell A.2 (fun e=>by have G:wr.heap.size=d.heap.size:=e;omega));have aA:Hid (Fr No d r):=(by first | exact H_ (b6.out.trans0 y) | exact H_ (b6.out.drew.trans0 y));have bJ:=H_ a3;clear a3))
     · go_wp2
       go_meet
       case rel=>exact ⟨_,rfl,rfl,H_ (zad _ _ _ rfl),H_ (aA.out.alloc _)⟩
     obtain ⟨Z,hZ,a4,ad⟩:=ziq (w:=d) bJ.out ⟨r1,r2,r3,I,J,r6⟩
     dsimp only at hZ a4;rw [hZ];go_wp2;go_meet
     case rel=>exact ⟨_,rfl,rfl,H_ a4,H_ (ad aA.out (Nat.le_refl _))⟩
    case rest =>
     obtain ⟨b,rfl,rfl,aZ,HX⟩:=hcut;have a9:Fr No wr wc:=b5.out.trans0 HX.out;have ay:=H_ a9;have R:=a9.heap E.out id;have d5:=zab aZ.out;have da:=zab R;have e2:=cellAt R 2 rfl;have cO:∀ j,wc.frozen? ⟨f,j,none⟩=false:=fun j=>by unfold World.frozen?;dsimp only;rw [R];simp
     obtain ⟨y0,y1,y2,y3,y4,y5⟩:=cells6 aZ.out;have aY:=H_ R;have ba:=H_ (HO.out.fr0 a9);clear a9 R x0 x1 k4 k1 af ae b1 b4 lk ch r0 r4 r5 b2 b3 bO;cases rb
     · have HE:Hid (zap S (S.T.take (i+1)) S.mark=zap S (S.T.take i) S.mark):=H_ (by rw [bb.out,az.out];simp)
       go_wp2;go_roundg g
       case rel=>exact ⟨i+1,_,by go_num,by omega,aY,H_ (by rw [HE.out];exact ba.out),H_ (L.out.trans0 ay.out),B⟩
       case measure=>omega
     have HE:Hid (zap S (S.T.take (i+1)) S.mark=zap S (S.T.take i) S.mark++[⟨r1,r2,r3,I,J,r6⟩]):=H_ (by rw [bb.out,az.out];simp)
     have ap:=zav wc (kvC ⟨r1,r2,r3,I,J,r6⟩) 70 (0,0);have aq:(Value.slice oa (zap S (S.T.take i) S.mark).length z).ownBlock≠some f:=fun h=>by have:=B.out f h;omega
     have bB:=H_ aq;clear aq;go_wp2_with (at_builtin;refine zaq rfl _ _ 74 rfl 70 i0 _ 6 64 Tryz.underlying74 bU ca cb cc rfl (by decide) _ (zap S (S.T.take i) S.mark) rfl (ba.out.alloc _) wc.heap.size 1 (⟨r1,r2,r3,I,J,r6⟩:Kv) rfl ap rfl ?c1 ?c2 ?c3 ?_)
     case c1=>intro u hu;simp [kvC] at hu;rcases hu with rfl | rfl | rfl | rfl | rfl | rfl <;> rfl
     case c2=>unfold maxLen;omega
     case c3=>omega
     intro g1 o' cap K P bh Q cw;have M:Fr (fun k=>(Value.slice oa (zap S (S.T.take i) S.mark).length z).ownBlock=some k) wc K:=((Fr.refl _ wc).alloc _).grown bh fun k hk=>.inl hk;have c:=M.heap aY.out bB.out;have v2:=cellAt c 2 rfl;have dg:∀ j,K.frozen? ⟨f,j,none⟩=false:=fun j=>by unfold World.frozen?;dsimp only;rw [c];simp
     have l4:=zab c
     have bT:w7.heap.size<=g1:=by
      rcases Q with e | e
      · exact B.out _ e
      have x:=L.out.size
      have h2:=ay.out.size
      try simp at e
      omega
     have aC:=H_ P;have bx:=H_ M;have aw:=H_ c;clear P bh Q ap M c;go_wp2;go_roundg g
     case rel =>
      have v:=zac aw.out 2 (.slice (some ⟨g1,o',none⟩) ((zap S (S.T.take i) S.mark).length+1) cap);have l:Fr (fun b=>b=f) K (K.setCell ⟨f,2,none⟩ (.slice (some ⟨g1,o',none⟩) ((zap S (S.T.take i) S.mark).length+1) cap)):=(Fr.refl _ K).setAt 2 _
      have bm:=aC.out.fr l fun b hb e=>by
       have G:b=f:=e;obtain rfl:g1=b:=by simpa [Value.ownBlock] using hb
       omega
      refine ⟨i+1,.slice (some ⟨g1,o',none⟩) ((zap S (S.T.take i) S.mark).length+1) cap,by go_num,by omega,H_ (by rw [v];simp),H_ (by rw [HE.out];simpa using bm),H_ (((L.out.trans0 ay.out).trans bx.out fun b hb h=>?_).trans l fun b hb e=>e),H_ fun b hb=>?_⟩
      · have:=B.out b h;omega
      obtain rfl:g1=b:=by simpa [Value.ownBlock] using hb
      exact bT
     case measure=>omega
theorem zmo (w:World) (x:Kv):Calls Tryz.prog 51 #[kvV x,kvV x] w fun e w'=>e=.returned (.bool true)/\Fr No w w':=by
 obtain ⟨a,b,c,d,f,g⟩:=x;unfold kvV;dsimp only;go_enter Tryz.func51,Tryz.ntmps51;go_wp2;go_ret;exact ⟨rfl,((Fr.refl No w).alloc _).alloc _⟩
theorem zgy (w:World) (u v:Value) (L:List Ev) (hu:SlR w 13 evC u L) (hv:SlR w 13 evC v L) (hl:L.length<=1099511627) :
 Calls Tryz.prog 26 #[u,v] w fun e w'=>e=.returned (.bool true)/\Fr No w w':=by
 obtain ⟨a,ca,rfl,av,aw,J⟩:=hu.shape;obtain ⟨b,cb,rfl,ax,ay,K⟩:=hv.shape;have HU:=H_ hu;have HV:=H_ hv;have HA:=H_ J;have HB:=H_ K;clear hu hv J K;go_enter Tryz.func26,Tryz.ntmps26;go_wp2
 go_loopg [5] L.length (fun g s5 wr=>∃ i:Nat,s5=.int .i64 i/\i+g=L.length/\Hid (Fr No w wr))
 case atStart=>exact ⟨0,rfl,by simp,H_ (Fr.refl No w)⟩
 case round =>
  obtain ⟨i,rfl,hi,O⟩:=hrel
  cases gk with
  | zero =>
    have a2:¬ (i:Int)<(L.length:Int):=(by omega);go_wp2;go_ret;exact ⟨rfl,O.out⟩
  | succ g =>
    have a2:(i:Int)<(L.length:Int):=(by omega);obtain ⟨x,f⟩:∃ x,L[i]?=some x:=⟨_,gG_ (by omega)⟩;obtain ⟨j,l,rfl⟩:=HA.out (by omega);obtain ⟨k,m,rfl⟩:=HB.out (by omega);have c:=HU.out.fr0 O.out;have d:=HV.out.fr0 O.out;have f0:=c.cell0 zaa i f rfl;have q0:=d.cell0 zaa i f rfl;have f1:=c.cell zaa i 1 f rfl;have q1:=d.cell zaa i 1 f rfl;have f2:=c.cell zaa i 2 f rfl;have q2:=d.cell zaa i 2 f rfl;have f3:=c.cell zaa i 3 f rfl;have q3:=d.cell zaa i 3 f rfl;have f4:=c.cell zaa i 4 f rfl;have q4:=d.cell zaa i 4 f rfl;have f5:=c.cell zaa i 5 f rfl;have q5:=d.cell zaa i 5 f rfl;have f6:=c.cell zaa i 6 f rfl;have q6:=d.cell zaa i 6 f rfl;have f7:=c.cell zaa i 7 f rfl;have q7:=d.cell zaa i 7 f rfl;have f8:=c.cell zaa i 8 f rfl
    have q8:=d.cell zaa i 8 f rfl;have f9:=c.cell zaa i 9 f rfl;have q9:=d.cell zaa i 9 f rfl;have Z:=c.cell zaa i 10 f rfl;have a3:=d.cell zaa i 10 f rfl;have a0:=c.cell zaa i 11 f rfl;have a4:=d.cell zaa i 11 f rfl;have a1:=c.cell zaa i 12 f rfl;have a5:=d.cell zaa i 12 f rfl;have lf:=gB_ _ _ f0;have lq:=gB_ _ _ q0;clear f c d;obtain ⟨P,⟨A,B,C,D,E,F⟩,⟨G,H,I,q,r,s⟩⟩:=x;dsimp only at *
    have z:Hid (∀ W,Fr No wr W->W.cell? ⟨j,l+i * 13,none⟩=some (.int .i64 P)/\W.cell? ⟨j,l+i * 13+1,none⟩=some (.string A)/\W.cell? ⟨j,l+i * 13+2,none⟩=some (.string B)/\W.cell? ⟨j,l+i * 13+3,none⟩=some (.int .i64 C)/\W.cell? ⟨j,l+i * 13+4,none⟩=some (.int .i64 D)/\W.cell? ⟨j,l+i * 13+5,none⟩=some (.int .i64 E)/\W.cell? ⟨j,l+i * 13+6,none⟩=some (.int .i64 F)/\W.cell? ⟨j,l+i * 13+7,none⟩=some (.string G)/\W.cell? ⟨j,l+i * 13+8,none⟩=some (.string H)/\W.cell? ⟨j,l+i * 13+9,none⟩=some (.int .i64 I)/\W.cell? ⟨j,l+i * 13+10,none⟩=some (.int .i64 q)/\W.cell? ⟨j,l+i * 13+11,none⟩=some (.int .i64 r)/\W.cell? ⟨j,l+i * 13+12,none⟩=some (.int .i64 s)/\W.cell? ⟨k,m+i * 13,none⟩=some (.int .i64 P)/\W.cell? ⟨k,m+i * 13+1,none⟩=some (.string A)/\W.cell? ⟨k,m+i * 13+2,none⟩=some (.string B)/\W.cell? ⟨k,m+i * 13+3,none⟩=some (.int .i64 C)/\W.cell? ⟨k,m+i * 13+4,none⟩=some (.int .i64 D)/\W.cell? ⟨k,m+i * 13+5,none⟩=some (.int .i64 E)/\W.cell? ⟨k,m+i * 13+6,none⟩=some (.int .i64 F)/\W.cell? ⟨k,m+i * 13+7,none⟩=some (.string G)/\W.cell? ⟨k,m+i * 13+8,none⟩=some (.string H)/\W.cell? ⟨k,m+i * 13+9,none⟩=some (.int .i64 I)/\W.cell? ⟨k,m+i * 13+10,none⟩=some (.int .i64 q)/\W.cell? ⟨k,m+i * 13+11,none⟩=some (.int .i64 r)/\W.cell? ⟨k,m+i * 13+12,none⟩=some (.int .i64 s)):=H_ fun W hW=>⟨hW.cell0 f0,hW.cell0 f1,hW.cell0 f2,hW.cell0 f3,hW.cell0 f4,hW.cell0 f5,hW.cell0 f6,hW.cell0 f7,hW.cell0 f8,hW.cell0 f9,hW.cell0 Z,hW.cell0 a0,hW.cell0 a1,hW.cell0 q0,hW.cell0 q1,hW.cell0 q2,hW.cell0 q3,hW.cell0 q4,hW.cell0 q5,hW.cell0 q6,hW.cell0 q7,hW.cell0 q8,hW.cell0 q9,hW.cell0 a3,hW.cell0 a4,hW.cell0 a5⟩
    have b1:=z.out wr (Fr.refl No wr);have b2:=z.out wr.drew (Fr.refl No wr).drew;have N:Hid (∀ (W:World) (k1 k2:ByteArray) (k3 k4 k5 k6:Int),Calls Tryz.prog 51 #[.agg #[.string k1,.string k2,.int .i64 k3,.int .i64 k4,.int .i64 k5,.int .i64 k6],.agg #[.string k1,.string k2,.int .i64 k3,.int .i64 k4,.int .i64 k5,.int .i64 k6]] W fun e w'=>e=.returned (.bool true)/\Fr No W w'):=H_ fun W k1 k2 k3 k4 k5 k6=>zmo W ⟨k1,k2,k3,k4,k5,k6⟩;have C1:=H_ (N.out wr A B C D E F);have Q:=H_ (N.out wr.drew A B C D E F);have HD:=H_ (Fr.refl No wr).drew;go_upto_region 6 with fail
    go_cut [55] (fun sc wx=>sc=.bool false/\Hid (Fr No wr wx))
    case first =>
     go_region_held3 (fun W=>W.cell? ⟨j,l+i * 13,none⟩=some (.int .i64 P)/\W.cell? ⟨j,l+i * 13+1,none⟩=some (.string A)/\W.cell? ⟨j,l+i * 13+2,none⟩=some (.string B)/\W.cell? ⟨j,l+i * 13+3,none⟩=some (.int .i64 C)/\W.cell? ⟨j,l+i * 13+4,none⟩=some (.int .i64 D)/\W.cell? ⟨j,l+i * 13+5,none⟩=some (.int .i64 E)/\W.cell? ⟨j,l+i * 13+6,none⟩=some (.int .i64 F)/\W.cell? ⟨j,l+i * 13+7,none⟩=some (.string G)/\W.cell? ⟨j,l+i * 13+8,none⟩=some (.string H)/\W.cell? ⟨j,l+i * 13+9,none⟩=some (.int .i64 I)/\W.cell? ⟨j,l+i * 13+10,none⟩=some (.int .i64 q)/\W.cell? ⟨j,l+i * 13+11,none⟩=some (.int .i64 r)/\W.cell? ⟨j,l+i * 13+12,none⟩=some (.int .i64 s)/\W.cell? ⟨k,m+i * 13,none⟩=some (.int .i64 P)/\W.cell? ⟨k,m+i * 13+1,none⟩=some (.string A)/\W.cell? ⟨k,m+i * 13+2,none⟩=some (.string B)/\W.cell? ⟨k,m+i * 13+3,none⟩=some (.int .i64 C)/\W.cell? ⟨k,m+i * 13+4,none⟩=some (.int .i64 D)/\W.cell? ⟨k,m+i * 13+5,none⟩=some (.int .i64 E)/\W.cell? ⟨k,m+i * 13+6,none⟩=some (.int .i64 F)/\W.cell? ⟨k,m+i * 13+7,none⟩=some (.string G)/\W.cell? ⟨k,m+i * 13+8,none⟩=some (.string H)/\W.cell? ⟨k,m+i * 13+9,none⟩=some (.int .i64 I)/\W.cell? ⟨k,m+i * 13+10,none⟩=some (.int .i64 q)/\W.cell? ⟨k,m+i * 13+11,none⟩=some (.int .i64 r)/\W.cell? ⟨k,m+i * 13+12,none⟩=some (.int .i64 s))
      (first | with_reducible exact b1 | with_reducible exact b2 | with_reducible exact b3 | with_reducible exact X | with_reducible exact b4 | with_reducible exact Y)
      (first
        | (go_at_call 51;(first | with_reducible refine C1.out.mono ?_ | with_reducible refine Q.out.mono ?_);rintro e M ⟨rfl,t⟩
           have n:Fr No wr M:=(by first | with_reducible exact t | with_reducible exact HD.out.trans0 t);have b3:=z.out M n;have X:=z.out M.drew n.drew;have C2:=H_ (N.out M G H I q r s);have R:=H_ (N.out M.drew G H I q r s);have U:=H_ n;have S:=H_ n.drew;clear t n)
        | (go_at_call 51;(first | with_reducible refine C2.out.mono ?_ | with_reducible refine R.out.mono ?_);rintro e w4 ⟨rfl,y⟩
           have o:Fr No wr w4:=(by first | with_reducible exact U.out.trans0 y | with_reducible exact S.out.trans0 y);have b4:=z.out w4 o;have Y:=z.out w4.drew o.drew;have V:=H_ o;have T:=H_ o.drew;clear y o))
     all_goals
      go_wp2;go_meet
      case rel=>exact ⟨rfl,by first | with_reducible exact V | with_reducible exact T⟩
    case rest =>
     obtain ⟨rfl,HX⟩:=hcut;go_wp2;go_roundg g
     case rel=>exact ⟨i+1,by go_num,by omega,H_ (O.out.trans0 HX.out)⟩
     case measure=>omega
theorem zoz (w:World) (r m:Int) (n1 n2 c1 c2:Nat) (a1 a2:Option Addr) :
 Calls Tryz.prog 29 #[stateV r m (.slice a1 n1 c1) (.slice a2 n2 c2)] w fun e w'=>e=.returned (stateV r m (.slice a1 n1 c1) (.slice a2 n2 c2))/\Fr No w w':=by
 unfold stateV;go_enter Tryz.func29,Tryz.ntmps29;go_wp2;exact bodyPost_ret (results_cell_row rfl _ _ (w.heap.size+1) 76 _ (0,0) _ rfl (zad _ _ _ (by simp)) Tryz.underlying76 rfl (by kernel_rfl)) rfl ⟨rfl,((Fr.refl No w).alloc _).alloc _⟩
theorem zho (w:World) (u v:Value) (L:List Ev) (hu:SlF w 72 13 evC u L) (hv:SlF w 72 13 evC v L) (hl:L.length<=1099511627) :
 Calls Tryz.prog 26 #[u,v] w fun e w'=>e=.returned (.bool true)/\Fr No w w':=zgy w u v L (hu.toR zaa) (hv.toR zaa) hl
theorem SlR.lt {α:Type} {f:α->List Value} {w:World} {sz:Nat} {v:Value} {L:List α} (h:SlR w sz f v L) (hf:∀ x,(f x).length=sz) (hsz:0<sz) (hp:0<L.length):∀ b,v.ownBlock=some b->b<w.heap.size:=by
 intro b e;obtain ⟨a,cap,rfl,k,l,c⟩:=h;obtain ⟨g,o,rfl,d⟩:=c hp;obtain rfl:g=b:=by simpa [Value.ownBlock] using e
 have j:L[0]?=some L[0]:=gG_ hp;have i:0<(f L[0]).length:=by rw [hf];exact hsz
 exact gB_ _ _ (d 0 _ j 0 _ (gG_ i))
theorem Good.does_at {k:Nat} {S:St} {D:Doc} (h:Good k S D) (hk:k<=70) {q:CalQ} (hq:fewCal q=true) :
 D.rev<=(doD S D q).rev/\(doD S D q).rev<=D.rev+1/\D.mark<=(doD S D q).mark/\∀ r,(doD S D q).mark<=r->r<=D.rev->(doD S D q).at r=D.at r:=by
 obtain ⟨g,m,i,n,s⟩:=zdx hq;have j:=h.cpl.m0
 have key:∀ E:List Ev,(∀ e∈E,e.kv.mod=D.rev+1)->D.rev<=(D.adds E).rev/\(D.adds E).rev<=D.rev+1/\D.mark<=(D.adds E).mark/\∀ r,(D.adds E).mark<=r->r<=D.rev->(D.adds E).at r=D.at r:=fun E hE=>by
  have d:=Doc.adds_rev D E _ hE;have t:=(Doc.adds_parts D E).1;refine ⟨by rw [d];split <;> omega,by rw [d];split <;> omega,by omega,fun r _ hr=>Doc.adds_at_old D E fun e c=>by have:=hE e c;omega⟩
 have b:D.rev<=D.rev/\D.rev<=D.rev+1/\D.mark<=D.mark/\∀ r,D.mark<=r->r<=D.rev->D.at r=D.at r:=⟨by omega,by omega,by omega,fun _ _ _=>rfl⟩;unfold doD;by_cases h4:kindN q.1.kind=4
 · rw [if_pos h4];exact b
 rw [if_neg h4]
 by_cases h5:kindN q.1.kind=5
 · rw [if_pos h5]
   by_cases hc:zbu S q.1.rev=0
   · rw [if_pos hc]
     obtain ⟨l,f⟩:=zcz hc;rw [h.cpl.mark] at f;exact ⟨Int.le_refl _,by show D.rev<=D.rev+1;omega,by show D.mark<=q.1.rev;omega,fun r hr _=>Doc.cut_at h.doc.es (by omega) hr fun e c=>(h.doc.lo e c).2.2⟩
   rw [if_neg hc];exact b
 rw [if_neg h5]
 by_cases h6:kindN q.1.kind=6
 · rw [if_pos h6];exact b
 rw [if_neg h6]
 by_cases h7:kindN q.1.kind=7
 · rw [if_pos h7]
   refine key _ ?_;obtain ⟨a,_⟩:=h.drops hk q.2.2 i q.2.2.length (Nat.le_refl _);have c:dropTo (D.rev+1) S q.2.2 q.2.2.length=q.2.2.foldl (dropR (D.rev+1)) (S,[]):=(by unfold dropTo;rw [List.take_length]);rw [c] at a;exact a.mods
 rw [if_neg h7]
 by_cases ha:applyE S q.2.1=0
 · rw [if_pos ha]
   refine key _ ?_;obtain ⟨⟨a,_⟩,_⟩:=h.runs hk (zbf ha).1 (fun o ho=>by have:=(g o ho).1;omega) q.2.1.length (Nat.le_refl _);rw [List.take_length] at a;exact a.mods
 rw [if_neg ha];exact b
theorem zof {TA:zao} (hT:TreeOk TA 1000000) {k:Nat} {S:St} {D:Doc} (h:Good k S D) (hk:k<=70) (w:World) (s:Nat) (F:Nat->Prop) (hS:zam TA w s S F) :
 Calls Tryz.prog 30 #[.pointer (some ⟨s,0,none⟩)] w fun e w'=>∃ a1 c1 a2 c2,e=.returned (stateV S.rev S.mark (.slice a1 (zap S S.T S.mark).length c1) (.slice a2 S.events.length c2))/\SlF w' 70 6 kvC (.slice a1 (zap S S.T S.mark).length c1) (zap S S.T S.mark)/\SlF w' 72 13 evC (.slice a2 S.events.length c2) S.events/\Fr No w w' ∧
  (∀ b,(Value.slice a1 (zap S S.T S.mark).length c1).ownBlock=some b->w.heap.size<=b)/\(∀ b,(Value.slice a2 S.events.length c2).ownBlock=some b->w.heap.size<=b):=by
 refine (zqq hT (n:=20000 * k) (by omega) w s S F hS h.ok (by have:=h.size;omega)).mono ?_;rintro e w' ⟨kv,i,rfl,a,c,d,f,g⟩;obtain ⟨a1,c1,rfl,_,_,_⟩:=a.shape;obtain ⟨a2,c2,rfl,_,_,_⟩:=c.shape;exact ⟨a1,c1,a2,c2,rfl,a,c,d,f,g⟩
end Go.Proofs.YtdgkdfmfoonbpaaGreat