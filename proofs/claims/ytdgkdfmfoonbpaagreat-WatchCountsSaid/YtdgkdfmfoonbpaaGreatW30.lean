/- Own lemmas. -/
import Derived.Test.YtdgkdfmfoonbpaaGreatW29
import Derived.Test.YtdgkdfmfoonbpaaGreatW27
import Derived.Test.YtdgkdfmfoonbpaaGreatW23
import Derived.Test.YtdgkdfmfoonbpaaGreatW25
import Derived.Test.YtdgkdfmfoonbpaaGreatW26
import Derived.Test.YtdgkdfmfoonbpaaGreatW05
import Derived.Test.YtdgkdfmfoonbpaaGreatW18
import Derived.Test.YtdgkdfmfoonbpaaGreatW28
namespace Go.Proofs.YtdgkdfmfoonbpaaGreat
open Go Go.Proofs Go.RowKit
set_option maxRecDepth 100000
def wkA:ByteArray:=⟨#[97]⟩
def wkB:ByteArray:=⟨#[98]⟩
def wk1:ByteArray:=⟨#[49]⟩
def wk2:ByteArray:=⟨#[50]⟩
def wk3:ByteArray:=⟨#[51]⟩
def wkS1:St:=applyS newS [putO wkA wk1]
def wkD1:Doc:=applyD newS newD [putO wkA wk1]
def wkS2:St:=applyS wkS1 [putO wkB wk2]
def wkD2:Doc:=applyD wkS1 wkD1 [putO wkB wk2]
def wkS3:St:=applyS wkS2 [putO wkA wk3]
def wkD3:Doc:=applyD wkS2 wkD2 [putO wkA wk3]
theorem wkE1:applyE newS [putO wkA wk1]=0:=by kernel_rfl
theorem wkE2:applyE wkS1 [putO wkB wk2]=0:=by kernel_rfl
theorem wkE3:applyE wkS2 [putO wkA wk3]=0:=by kernel_rfl
theorem wkG1:Good 1 wkS1 wkD1:=Good.new.apply (by omega) (zbw wkE1).1 (fun o ho=>by rw [List.mem_singleton.1 ho];decide)
theorem wkG2:Good 2 wkS2 wkD2:=wkG1.apply (by omega) (zbw wkE2).1 (fun o ho=>by rw [List.mem_singleton.1 ho];decide)
theorem wkG3:Good 3 wkS3 wkD3:=wkG2.apply (by omega) (zbw wkE3).1 (fun o ho=>by rw [List.mem_singleton.1 ho];decide)
def wkT1:Wt:=⟨wkA,⟨#[0]⟩,1,false,false,false⟩
def wkT2:Wt:=⟨wkA,⟨#[]⟩,0,false,false,false⟩
def wkH2:Hb:=openH (openH ⟨2,0,[]⟩ wkT1) wkT2
def wkH3:Hb:=takeH wkD2 wkH2 1
def wkH4:Hb:=takeH wkD3 wkH3 2
def wkH5:Hb:=feedH wkD3 wkH4
def wkH6:Hb:=takeH wkD3 wkH5 2
theorem wkO1:openE wkT1=0:=by kernel_rfl
theorem wkO2:openE wkT2=0:=by kernel_rfl
theorem wkR2:wkS2.rev=2:=by kernel_rfl
theorem wkX1:takeE wkH2 1=0:=by kernel_rfl
theorem wkX2:(takeB wkD2 wkH2 1).evs.length=2:=by kernel_rfl
theorem wkX3:(takeB wkD2 wkH2 1).rev=2:=by kernel_rfl
theorem wkY1:takeE wkH3 2=0:=by kernel_rfl
theorem wkY2:(takeB wkD3 wkH3 2).evs.length=0:=by kernel_rfl
theorem wkZ1:takeE wkH5 2=0:=by kernel_rfl
theorem wkZ2:(takeB wkD3 wkH5 2).evs.length=1:=by kernel_rfl
theorem wkZ3:(takeB wkD3 wkH5 2).rev=3:=by kernel_rfl
theorem wkF:wkH6.fed=3:=by kernel_rfl
theorem Both.put {TA:zan} (hT:TreeOk TA 1000000) {w:World} {h st k n:Nat} {S:St} {D:Doc} {H:Hb} {B:Nat->Prop} (a:Both TA w h st k n S D H B) (hk:k<=70) (x y:ByteArray) (ha:x.size<=3000) (he:applyE S [putO x y]=0) (hmono:D.rev<=(applyD S D [putO x y]).rev) :
 Calls Tryz.prog 39 #[.pointer (some ⟨st,0,none⟩),.string x,.string y] w fun e w'=>e=.returned (.tuple #[])/\∃ B',Both TA w' h st (k+1) n (applyS S [putO x y]) (applyD S D [putO x y]) H B'/\Fr B w w'/\(∀ b,B' b->B b\/w.heap.size<=b):=by
 obtain ⟨p,F,G,f,m,g,r,i,t⟩:=a;refine (zfi hT p.good hk w st G m x y ha he).mono ?_;rintro e w' ⟨rfl,d,b1,b2,j⟩;have s:=p.good.apply hk (zbw he).1 (fun o ho=>by rw [List.mem_singleton.1 ho];show x.size<=_;omega);refine ⟨rfl,fun b=>F b\/d b,⟨⟨s,p.q,by have:=p.fed;omega,p.len,p.last⟩,F,d,f.fr b2 fun b c h2=>g b c h2,b1,fun b c h2=>?_,fun _=>.inl,fun _=>.inr,fun _ h=>h⟩,b2.mono fun b _ h=>i b h,fun b hb=>?_⟩
 · rcases j b h2 with l | l
   · exact g b c l
   have:=f.lt b c
   omega
 rcases hb with c | c
 · exact .inl (r b c)
 exact (j b c).imp (i b) id
theorem wkM:wkD2.rev<=wkD3.rev:=by rw [<-wkG2.rev,<-wkG3.rev];exact (by kernel_rfl:decide (wkS2.rev<=wkS3.rev)=true) |> of_decide_eq_true
theorem wkX4:(takeB wkD2 wkH2 1).cancel=false:=by kernel_rfl
theorem wkY3:(takeB wkD3 wkH3 2).cancel=false:=by kernel_rfl
theorem wkY4:(takeB wkD3 wkH3 2).rev=2:=by kernel_rfl
theorem wkZ4:(takeB wkD3 wkH5 2).cancel=false:=by kernel_rfl
section
variable {TA:zan} (hT:TreeOk TA 1000000) {W:World} {h st:Nat} {B:Nat->Prop}
include hT
theorem zvt (a:Both TA W h st 2 0 wkS2 wkD2 ⟨2,0,[]⟩ B):Calls Tryz.prog 12 #[.pointer (some ⟨h,0,none⟩),.agg #[.string ⟨#[97]⟩,.string ⟨#[0]⟩,.int .i64 1,.bool false,.bool false,.bool false]] W fun e w' =>
 e=.returned (.tuple #[.int .i64 1,.int .i64 0])/\∃ B',Both TA w' h st 2 1 wkS2 wkD2 (openH ⟨2,0,[]⟩ wkT1) B'/\Fr B W w'/\∀ b,B' b->B b\/W.heap.size<=b:=by
 have h:=a.open hT (by omega) (by omega) wkT1 (by decide) (by kernel_rfl);rw [wkO1] at h;exact h
theorem zvs (a:Both TA W h st 2 1 wkS2 wkD2 (openH ⟨2,0,[]⟩ wkT1) B):Calls Tryz.prog 12 #[.pointer (some ⟨h,0,none⟩),.agg #[.string ⟨#[97]⟩,.string ⟨#[]⟩,.int .i64 0,.bool false,.bool false,.bool false]] W fun e w' =>
 e=.returned (.tuple #[.int .i64 2,.int .i64 0])/\∃ B',Both TA w' h st 2 2 wkS2 wkD2 wkH2 B'/\Fr B W w'/\∀ b,B' b->B b\/W.heap.size<=b:=by
 have h:=a.open hT (by omega) (by omega) wkT2 (by decide) (by kernel_rfl);rw [wkO2] at h;exact h
theorem zvr (a:Both TA W h st 2 2 wkS2 wkD2 wkH2 B):Calls Tryz.prog 14 #[.pointer (some ⟨h,0,none⟩),.int .i64 1] W fun e w' =>
 ∃ x c,e=.returned (.tuple #[.agg #[.slice x 2 c,.int .i64 2,.bool false],.int .i64 0])/\∃ B',Both TA w' h st 2 2 wkS2 wkD2 wkH3 B'/\Fr B W w'/\∀ b,B' b->B b\/W.heap.size<=b:=by
 refine (a.take hT (by omega) 1 (by kernel_rfl)).mono ?_;rintro e w' ⟨v,rfl,f,B',b1,b2,d,_⟩;obtain ⟨x,c,rfl,_⟩:=f.shape;exact ⟨x,c,by unfold batV;rw [wkX1,wkX2,wkX3,wkX4],B',b1,b2,d⟩
theorem zvq (a:Both TA W h st 3 2 wkS3 wkD3 wkH3 B):Calls Tryz.prog 14 #[.pointer (some ⟨h,0,none⟩),.int .i64 2] W fun e w' =>
 ∃ x c,e=.returned (.tuple #[.agg #[.slice x 0 c,.int .i64 2,.bool false],.int .i64 0])/\∃ B',Both TA w' h st 3 2 wkS3 wkD3 wkH4 B'/\Fr B W w'/\∀ b,B' b->B b\/W.heap.size<=b:=by
 refine (a.take hT (by omega) 2 (by kernel_rfl)).mono ?_;rintro e w' ⟨v,rfl,f,B',b1,b2,d,_⟩;obtain ⟨x,c,rfl,_⟩:=f.shape;exact ⟨x,c,by unfold batV;rw [wkY1,wkY2,wkY3,wkY4],B',b1,b2,d⟩
theorem zvp (a:Both TA W h st 3 2 wkS3 wkD3 wkH5 B):Calls Tryz.prog 14 #[.pointer (some ⟨h,0,none⟩),.int .i64 2] W fun e w' =>
 ∃ x c,e=.returned (.tuple #[.agg #[.slice x 1 c,.int .i64 3,.bool false],.int .i64 0])/\∃ B',Both TA w' h st 3 2 wkS3 wkD3 wkH6 B'/\Fr B W w'/\∀ b,B' b->B b\/W.heap.size<=b:=by
 refine (a.take hT (by omega) 2 (by kernel_rfl)).mono ?_;rintro e w' ⟨v,rfl,f,B',b1,b2,d,_⟩;obtain ⟨x,c,rfl,_⟩:=f.shape;exact ⟨x,c,by unfold batV;rw [wkZ1,wkZ2,wkZ3,wkZ4],B',b1,b2,d⟩
theorem wkPut3 (a:Both TA W h st 2 2 wkS2 wkD2 wkH3 B):Calls Tryz.prog 39 #[.pointer (some ⟨st,0,none⟩),.string ⟨#[97]⟩,.string ⟨#[51]⟩] W fun e w' =>
 e=.returned (.tuple #[])/\∃ B',Both TA w' h st 3 2 wkS3 wkD3 wkH3 B'/\Fr B W w'/\∀ b,B' b->B b\/W.heap.size<=b:=a.put hT (by omega) wkA wk3 (by decide) wkE3 wkM
theorem wkFeed (a:Both TA W h st 3 2 wkS3 wkD3 wkH4 B):Calls Tryz.prog 13 #[.pointer (some ⟨h,0,none⟩)] W fun e w' =>
 e=.returned (.tuple #[])/\∃ B',Both TA w' h st 3 2 wkS3 wkD3 wkH5 B'/\Fr B W w'/\∀ b,B' b->B b\/W.heap.size<=b:=a.feed hT (by omega) (by omega)
omit hT in
theorem wkFed (a:Both TA W h st 3 2 wkS3 wkD3 wkH6 B):Calls Tryz.prog 16 #[.pointer (some ⟨h,0,none⟩)] W fun e w'=>e=.returned (.int .i64 3)/\W=w':=by
 have h:=a.fedC;rw [wkF] at h;exact h
end
theorem newer {B B':Nat->Prop} {w0 w1:World} (h0:∀ b,B b->w0.heap.size<=b) (h1:∀ b,B' b->B b\/w1.heap.size<=b) (h:w0.heap.size<=w1.heap.size):∀ b,B' b->w0.heap.size<=b:=fun b hb=>(h1 b hb).elim (h0 b) fun x=>by omega
theorem frNew {B:Nat->Prop} {w0 w1 w2:World} (h0:∀ b,B b->w0.heap.size<=b) (f1:Fr No w0 w1) (f2:Fr B w1 w2):Fr No w0 w2:=f1.trans f2 fun j hj x=>by have:=h0 j x;omega
set_option maxHeartbeats 8000000 in
theorem zea {TA:zan} (hT:TreeOk TA 1000000) (w:World):Calls Tryz.prog 10 #[] w fun e w'=>e=.returned (.bool true)/\Fr No w w':=by
 have p1:=fun W s F hS=>zfi hT Good.new (by omega) W s F hS wkA wk1 (by decide) wkE1;have p2:=fun W s F hS=>zfi hT wkG1 (by omega) W s F hS wkB wk2 (by decide) wkE2;unfold wkA wk1 at p1;unfold wkB wk2 at p2;have P1:=H_ p1;have P2:=H_ p2;clear p1 p2;go_enter Tryz.func10,Tryz.ntmps10;go_upto_region 2 with (go_at_call 19;refine (zcf hT _).mono ?_;rintro e w1 ⟨s,rfl,F1,s1,f1,n1⟩);go_upto_region 3 with (go_at_call 39;refine (P1.out _ _ _ s1).mono ?_;rintro e w2 ⟨rfl,F2,s2,f2,n2⟩);have k1:=frNew (fun b hb=>n1 b hb) f1 f2;have k2:=newer n1 n2 f1.size;have K1:=H_ k1;have K2:=H_ k2;clear k1 k2 f1 n1 s1 f2 n2;have md:=fun W (G:Nat->Prop) (hS:zai TA W s wkS2 G)=>Both.made hT (k:=2) (D:=wkD2) wkG2 hS (by rw [wkR2];decide);simp only [wkR2] at md;have MD:=H_ md;clear md
 go_upto_region 5 with (first
  | (go_at_call 39;refine (P2.out _ _ _ s2).mono ?_;rintro e w3 ⟨rfl,F3,s3,f3,n3⟩)
  | (go_at_call 11;refine (MD.out _ _ s3).mono ?_;rintro e w4 ⟨h,rfl,B4,b4,f4,n4⟩))
 have g4:=(frNew K2.out K1.out f3).trans0 f4;have m4:=newer (newer K2.out n3 K1.out.size) n4 (frNew K2.out K1.out f3).size;have G4:=H_ g4;have M4:=H_ m4;have ai:=H_ b4;clear g4 m4 b4 f4 n4 s3 f3 n3 s2 MD P1 P2;go_upto_region 8 with (go_at_call 12;(with_reducible refine (zvt hT ai.out).mono ?_);rintro e w5 ⟨rfl,B5,b5,f5,n5⟩);have G5:=H_ (frNew M4.out G4.out f5);have M5:=H_ (newer M4.out n5 G4.out.size);have aj:=H_ b5;clear b5 f5 n5;go_upto_region 9 with (go_at_call 12;(with_reducible refine (zvs hT aj.out).mono ?_);rintro e w6 ⟨rfl,B6,b6,f6,n6⟩);have G6:=H_ (frNew M5.out G5.out f6);have M6:=H_ (newer M5.out n6 G5.out.size);have ak:=H_ b6;clear b6 f6 n6;go_upto_region 10 with (go_at_call 14;(with_reducible refine (zvr hT ak.out).mono ?_);rintro e w7 ⟨xa,xc,rfl,B7,b7,f7,n7⟩)
 have a5:=zad w7 (Obj.cells #[.slice xa 2 xc,.int .i64 2,.bool false] 43) _ rfl;have n:=(Fr.refl No w7).alloc (Obj.cells #[.slice xa 2 xc,.int .i64 2,.bool false] 43);have a7:∀ b,B7 b->b<w7.heap.size:=b7.lt hT;have al:=H_ (b7.fr0 hT n);have G8:=H_ ((frNew M6.out G6.out f7).trans0 n);have M8:=H_ (newer M6.out n7 G6.out.size);have ax:=n.size;generalize w7.alloc (Obj.cells #[.slice xa 2 xc,.int .i64 2,.bool false] 43)=W8 at *;generalize w7.heap.size=x at *;have a1:=H_ a7;have X:=H_ a5;clear b7 f7 n7 n a7 a5 ax;go_upto_region 11 with (go_at_call 39;(with_reducible refine (wkPut3 hT al.out).mono ?_);rintro e w9 ⟨rfl,B9,b9,f9,n9⟩);have aw:x<W8.heap.size:=zaf X.out;have a6:=f9.heap X.out fun h=>by have:=a1.out x h;omega
 have a8:∀ b,B9 b->b≠x:=fun b hb e=>by
  rcases n9 b hb with h | h
  · have:=a1.out b h;omega
  omega
 have Y:=H_ a6;have a2:=H_ a8;have am:=H_ b9;have G9:=H_ (frNew M8.out G8.out f9);have M9:=H_ (newer M8.out n9 G8.out.size);clear b9 f9 n9 a6 a8 aw;go_upto_region 12 with (go_at_call 14;(with_reducible refine (zvq hT am.out).mono ?_);rintro e j ⟨ya,yc,rfl,Q,M,N,O⟩);have B:=N.heap Y.out fun h=>a2.out x h rfl
 have J:∀ b,Q b->b≠x:=fun b hb e=>by
  rcases O b hb with h | h
  · exact a2.out b h e
  have:=zaf Y.out;omega
 have A:=zad j (Obj.cells #[.slice ya 0 yc,.int .i64 2,.bool false] 43) _ rfl;have f:=(Fr.refl No j).alloc (Obj.cells #[.slice ya 0 yc,.int .i64 2,.bool false] 43);have L:∀ b,Q b->b<j.heap.size:=M.lt hT;have R:=H_ (M.fr0 hT f);have U:=H_ ((frNew M9.out G9.out N).trans0 f);have a0:=H_ (newer M9.out O G9.out.size);have q:=H_ (f.heap B id);generalize j.alloc (Obj.cells #[.slice ya 0 yc,.int .i64 2,.bool false] 43)=bk at *;generalize j.heap.size=y at *;have t:=H_ J;have v:=H_ L;have r:=H_ A;clear M N O f J L A B;go_upto_region 13 with (go_at_call 13;(with_reducible refine (wkFeed hT R.out).mono ?_);rintro e bm ⟨rfl,ah,a3,l,P⟩);have C:=l.heap q.out fun h=>t.out x h rfl
 have H:=l.heap r.out fun h=>by have:=v.out y h;omega
 have K:∀ b,ah b->b≠x/\b≠y:=fun b hb=>by
  have h1:=zaf q.out;have h2:=zaf r.out;rcases P b hb with h | h
  · exact ⟨t.out b h,fun e=>by have:=v.out b h;omega⟩
  exact ⟨by omega,by omega⟩
 have V:=H_ C;have Z:=H_ H;have u:=H_ K;have S:=H_ a3;have an:=H_ (frNew a0.out U.out l);have ap:=H_ (newer a0.out P U.out.size);clear a3 l P C H K;go_upto_region 14 with (go_at_call 14;(with_reducible refine (zvp hT S.out).mono ?_);rintro e o ⟨za,zc,rfl,bh,a4,m,az⟩);have E:=m.heap V.out fun h=>(u.out x h).1 rfl;have I:=m.heap Z.out fun h=>(u.out y h).2 rfl;have d:=zad o (Obj.cells #[.slice za 1 zc,.int .i64 3,.bool false] 43) _ rfl;have a:=(Fr.refl No o).alloc (Obj.cells #[.slice za 1 zc,.int .i64 3,.bool false] 43);have T:=H_ (a4.fr0 hT a);have ao:=H_ ((frNew ap.out an.out m).trans0 a);have c:=a.heap E id;have g:=a.heap I id
 generalize o.alloc (Obj.cells #[.slice za 1 zc,.int .i64 3,.bool false] 43)=i at *;generalize o.heap.size=z at *;clear a4 m az a E I;have x0:i.cell? ⟨x,0,none⟩=some (.slice xa 2 xc):=cellAt c 0 rfl;have x1:i.cell? ⟨x,1,none⟩=some (.int .i64 2):=cellAt c 1 rfl;have y0:i.cell? ⟨y,0,none⟩=some (.slice ya 0 yc):=cellAt g 0 rfl;have z0:i.cell? ⟨z,0,none⟩=some (.slice za 1 zc):=cellAt d 0 rfl;have z1:i.cell? ⟨z,1,none⟩=some (.int .i64 3):=cellAt d 1 rfl;have lx:=zaf c;have ly:=zaf g;have lz:=zaf d;clear c g d;go_wp2_with (go_at_call 16;(with_reducible refine (wkFed T.out).mono ?_);rintro e bn ⟨rfl,rfl⟩);go_ret;exact ⟨rfl,ao.out⟩
structure ActQ where
 kind:Int
 call:CalQ
 w:Wt
 id:Int
def wtC (t:Wt):List Value:=[.string t.key,.string t.end_,.int .i64 t.frm,.bool t.np,.bool t.nd,.bool t.prev]
def actC (a:ActQ):List Value:=.int .i64 a.kind :: (calC a.call++(wtC a.w++[.int .i64 a.id]))
theorem zap (a:ActQ):(actC a).length=20:=rfl
structure ActR (w:World) (v:Value) (l:List ActQ):Prop where
 sl:SlR w 20 actC v l
 ops:∀ (i:Nat) q,l[i]?=some q->SlR w 10 opC q.call.1.ops q.call.2.1
 keys:∀ (i:Nat) q,l[i]?=some q->SlR w 1 strC q.call.1.keys q.call.2.2
 frm:∀ (i:Nat) q,l[i]?=some q->(Lit.int .i64 q.w.frm).wf=true
 id:∀ (i:Nat) q,l[i]?=some q->(Lit.int .i64 q.id).wf=true
theorem ActR.fr0 {w w':World} {v:Value} {l:List ActQ} (h:ActR w v l) (hf:Fr No w w'):ActR w' v l:=⟨h.sl.fr0 hf,fun i q hq=>(h.ops i q hq).fr0 hf,fun i q hq=>(h.keys i q hq).fr0 hf,h.frm,h.id⟩
def fewW (t:Wt):Bool:=fewKey t.key&&fewKey t.end_
def fewAct (a:ActQ):Bool:=fewCal a.call&&fewW a.w
def zcx (l:List ActQ):Bool:=decide (l.length<=60)&&l.all fewAct
theorem zfu {l:List ActQ} (h:zcx l=true):l.length<=60/\∀ a∈l,fewCal a.call=true/\a.w.key.size<=3000/\a.w.end_.size<=3000:=by
 unfold zcx at h;rw [Bool.and_eq_true,decide_eq_true_eq,List.all_eq_true] at h;refine ⟨h.1,fun a ha=>?_⟩;have:=h.2 a ha;unfold fewAct fewW fewKey at this;simp only [Bool.and_eq_true,decide_eq_true_eq] at this;exact ⟨this.1,this.2.1,this.2.2⟩
theorem zqj (w:World) (t:Wt):Calls Tryz.prog 18 #[wtV t] w fun e w'=>e=.returned (.bool (fewW t))/\Fr No w w':=by
 unfold wtV;have d:fewW t=(decide (t.key.size<=3000)&&decide (t.end_.size<=3000)):=rfl;have a:=H_ d;clear d;by_cases h1:t.key.size<=3000
 · have b:(t.key.size:Int)<=3000:=by omega
   by_cases h2:t.end_.size<=3000
   · have c:(t.end_.size:Int)<=3000:=by omega
     go_enter Tryz.func18,Tryz.ntmps18;go_wp2;go_ret;exact ⟨by rw [a.out];simp [h1,h2],(Fr.refl No w).alloc _⟩
   have c:¬ (t.end_.size:Int)<=3000:=by omega
   go_enter Tryz.func18,Tryz.ntmps18;go_wp2;go_ret;exact ⟨by rw [a.out];simp [h1,h2],(Fr.refl No w).alloc _⟩
 have b:¬ (t.key.size:Int)<=3000:=by omega
 go_enter Tryz.func18,Tryz.ntmps18;go_wp2;go_ret;exact ⟨by rw [a.out];simp [h1],(Fr.refl No w).alloc _⟩
theorem zgk (w:World) (a:ActQ):Calls Tryz.prog 20 #[.agg (actC a).toArray] w fun e w'=>e=.returned (.int .i64 (kindN a.kind))/\Fr No w w':=by
 obtain ⟨b,⟨⟨r,s,⟨f,g,j,k,l,m,n⟩,t,u,v⟩,d,c⟩,⟨x,y,z,A,B,C⟩,i⟩:=a;unfold actC calC rgC wtC;dsimp only;unfold kindN;have o:=Int.tmod_lt_of_pos b (show (0:Int)<8 by decide);have q:=Int.lt_tmod_of_pos b (show (0:Int)<8 by decide);go_enter Tryz.func20,Tryz.ntmps20;go_wp2;go_ret;exact ⟨by rw [Int.tmod_eq_emod_of_nonneg (show 0<=b.tmod 8+8 by omega)];rfl,(Fr.refl No w).alloc _⟩
theorem zvj {w:World} {q:CalQ} (h1:SlR w 10 opC q.1.ops q.2.1) (h2:SlR w 1 strC q.1.keys q.2.2) {b:Nat} {t:TypeId} (hb:w.heap[b]?=some (.cells (calC q).toArray t (0,0))):CalR w (.slice (some ⟨b,0,none⟩) 1 1) [q]:=by
 refine ⟨⟨_,1,rfl,by simp,by decide,fun _=>⟨b,0,rfl,fun i x hx j u hu=>?_⟩⟩,fun i x hx=>?_,fun i x hx=>?_⟩
 · have a:i=0:=by have:=(List.getElem?_eq_some_iff.1 hx).1;simp at this;omega
   subst a;obtain rfl:q=x:=by simpa using hx
   unfold World.cell?;simp only [hb,Nat.zero_mul,Nat.zero_add,Option.isSome_none,Bool.false_eq_true,if_false];simpa using hu
 · have a:i=0:=by have:=(List.getElem?_eq_some_iff.1 hx).1;simp at this;omega
   subst a;obtain rfl:q=x:=by simpa using hx
   exact h1
 have a:i=0:=by have:=(List.getElem?_eq_some_iff.1 hx).1;simp at this;omega
 subst a;obtain rfl:q=x:=by simpa using hx
 exact h2
set_option maxHeartbeats 4000000 in
theorem zdt (w:World) (v:Value) (l:List ActQ) (hv:ActR w v l):Calls Tryz.prog 9 #[v] w fun e w'=>e=.returned (.bool (zcx l))/\Fr No w w':=by
 obtain ⟨hv,j,d,_,_⟩:=hv;obtain ⟨a,cap,rfl,R,S,J⟩:=hv.shape;have O:=H_ hv;clear hv;have L:=H_ J;clear J;have N:=H_ j;clear j;have M:=H_ d;clear d;by_cases h60:60<l.length
 · have y:(60:Int)<(l.length:Int):=by omega
   have:zcx l=false:=(by unfold zcx;simp;omega);rw [this];go_enter Tryz.func9,Tryz.ntmps9;go_wp2;go_ret;exact ⟨rfl,Fr.refl _ _⟩
 have y:¬ (60:Int)<(l.length:Int):=by omega
 have I:zcx l=l.all fewAct:=(by unfold zcx;simp;omega);have C:=H_ I;clear I;go_enter Tryz.func9,Tryz.ntmps9;go_wp2
 go_loopg [3] l.length (fun g s3 wr=>∃ i:Nat,s3=.int .i64 i/\i+g=l.length/\Hid ((l.take i).all fewAct=true)/\Hid (Fr No w wr))
 case atStart=>exact ⟨0,rfl,by simp,H_ (by simp),H_ (Fr.refl _ _)⟩
 case round =>
  obtain ⟨i,rfl,hi,D,k⟩:=hrel
  cases gk with
  | zero =>
    have G:¬ (i:Int)<(l.length:Int):=(by omega);have H:l.take i=l:=List.take_of_length_le (by omega);rw [H] at D;go_wp2;go_ret;exact ⟨by rw [C.out,D.out];rfl,k.out⟩
  | succ g =>
    obtain ⟨gb,go,rfl⟩:=L.out (by omega);obtain ⟨p,f⟩:∃ p,l[i]?=some p:=⟨_,List.getElem?_eq_getElem (by omega)⟩;have c:=O.out.fr0 k.out;have V:=c.cell zap i 1 f rfl;have x2:=c.cell zap i 2 f rfl;have x3:=c.cell zap i 3 f rfl;have x4:=c.cell zap i 4 f rfl;have x5:=c.cell zap i 5 f rfl;have x6:=c.cell zap i 6 f rfl;have x7:=c.cell zap i 7 f rfl;have x8:=c.cell zap i 8 f rfl;have x9:=c.cell zap i 9 f rfl;have X:=c.cell zap i 10 f rfl;have Y:=c.cell zap i 11 f rfl;have Z:=c.cell zap i 12 f rfl;have a0:=c.cell zap i 13 f rfl;have a1:=c.cell zap i 14 f rfl;have a2:=c.cell zap i 15 f rfl;have a3:=c.cell zap i 16 f rfl;have a4:=c.cell zap i 17 f rfl;have a5:=c.cell zap i 18 f rfl;have G:(i:Int)<(l.length:Int):=(by omega)
    have B:=zcj (p:=fewAct) f;have z:=zcv (p:=fewAct) f;have E:=H_ B;have t:=H_ z;have j:=N.out i p f;have d:=M.out i p f;have A:fewAct p=(fewCal p.call&&fewW p.w):=rfl
    have r:∀ W b,W.heap[b]?=some (.cells (calC p.call).toArray 27 (0,0))->Fr No w W->Calls Tryz.prog 38 #[.slice (some ⟨b,0,none⟩) 1 1] W fun e w'=>e=.returned (.bool (fewCal p.call))/\W=w':=fun W b hb hW=>by
     have h:=zkg W _ [p.call] (zvj (j.fr0 hW) (d.fr0 hW) hb);have e:zep [p.call]=fewCal p.call:=(by unfold zep;simp);rw [e] at h;exact h
    have s:=fun W=>zqj W p.w;clear f c B z j d;obtain ⟨p0,⟨⟨p1,p2,⟨g1,g2,g3,g4,g5,g6,g7⟩,p3,p4,p5⟩,T,K⟩,⟨t1,t2,t3,t4,t5,t6⟩,id⟩:=p;unfold calC rgC at r;unfold wtV at s;dsimp only at *;generalize fewAct _=F at *;generalize fewCal _=P at *;generalize fewW _=Q at *;have n:=H_ r;have u:=H_ s;have o:=H_ A;have lg:=World.block_lt_of_cell? _ _ V;clear r s A;cases P
    · have m:F=false:=by rw [o.out];rfl
      have x:=H_ m;clear m;go_wp2_with (go_at_call 38;refine (n.out _ _ (zad _ _ _ rfl) (k.out.alloc _)).mono ?_;rintro e w' ⟨rfl,rfl⟩);go_ret;exact ⟨by rw [C.out,t.out x.out];rfl,k.out.alloc _⟩
    cases Q
    · have m:F=false:=by rw [o.out];rfl
      have x:=H_ m;clear m
      go_wp2_with (first
       | (go_at_call 38;refine (n.out _ _ (zad _ _ _ rfl) (k.out.alloc _)).mono ?_;rintro e w1 ⟨rfl,rfl⟩)
       | (go_at_call 18;refine (u.out _).mono ?_;rintro e U ⟨rfl,q⟩))
      go_ret;exact ⟨by rw [C.out,t.out x.out];rfl,(k.out.alloc _).trans0 q⟩
    have m:F=true:=by rw [o.out];rfl
    have x:=H_ m;clear m
    go_wp2_with (first
     | (go_at_call 38;refine (n.out _ _ (zad _ _ _ rfl) (k.out.alloc _)).mono ?_;rintro e w1 ⟨rfl,rfl⟩)
     | (go_at_call 18;refine (u.out _).mono ?_;rintro e U ⟨rfl,q⟩))
    go_roundg g
    case rel=>exact ⟨i+1,by go_num,by omega,H_ (by rw [E.out,D.out,x.out];rfl),H_ ((k.out.alloc _).trans0 q)⟩
    case measure=>omega
def idxI (P:Int->Bool) (l:List Int):Int:=if l.findIdx P=l.length then -1 else (l.findIdx P:Int)
theorem firstI {P:Int->Bool} {L:List Int} {k:Nat} (h:L.findIdx P=k) (hk:k<L.length):(L.take (k+1)).filter (fun x=>!P x)=L.take k:=by
 obtain ⟨x,c⟩:∃ x,L[k]?=some x:=⟨_,List.getElem?_eq_getElem hk⟩
 have e:P x=true:=by
  have:=(List.findIdx_eq hk).1 h;rw [(List.getElem?_eq_some_iff.1 c).2] at this;exact this.1
 rw [List.take_add_one,c,List.filter_append]
 have d:(L.take k).filter (fun x=>!P x)=L.take k:=by
  rw [List.filter_eq_self];intro y f;obtain ⟨j,a⟩:=List.mem_iff_getElem?.1 f;have b:=(List.getElem?_eq_some_iff.1 a).1;rw [List.length_take] at b;rw [List.getElem?_take_of_lt (by omega)] at a;have:=((List.findIdx_eq hk).1 h).2 j (by omega);rw [(List.getElem?_eq_some_iff.1 a).2] at this;simpa using this
 rw [d];simp [e]
theorem allI {P:Int->Bool} {L:List Int} (h:L.findIdx P=L.length):L.filter (fun x=>!P x)=L:=by
 rw [List.filter_eq_self];intro y a;rw [List.findIdx_eq_length] at h;simp [h y a]
theorem zrx (l:List Int) (k:Nat) (x:Int) (h:k<l.length):(l.set k x).take (k+1)=l.take k++[x]:=by
 rw [List.take_add_one,List.getElem?_set_self h]
 congr 1
 refine List.ext_getElem? fun j=>?_;by_cases hj:j<k
 · rw [List.getElem?_take_of_lt hj,List.getElem?_take_of_lt hj,List.getElem?_set_ne (by omega)]
 rw [List.getElem?_eq_none (by simp;omega),List.getElem?_eq_none (by simp;omega)]
theorem zry (l:List Int) (k i:Nat) (x:Int) (h:k<i):(l.set k x).drop i=l.drop i:=by
 refine List.ext_getElem? fun j=>?_;rw [List.getElem?_drop,List.getElem?_drop,List.getElem?_set_ne (by omega)]
theorem zero3 (w:World):(zeroValue 3).run Tryz.prog w=.ok (.int .i64 0) w:=by kernel_rfl
def TellsI (w:World) (f:Nat) (fv:Value) (v:Value) (L:List Int) (p:Int->Bool):Prop :=
 ∀ W x,x∈L->Fr (fun b=>v.ownBlock=some b) w W->Calls Tryz.prog f #[.int .i64 x,fv] W fun e w'=>e=.returned (.bool (p x))/\Fr No W w'
set_option maxHeartbeats 2000000 in
theorem zqg (w:World) (v fv:Value) (L:List Int) (p:Int->Bool) (hv:SlF w 3 1 int1 v L) (hl:L.length<=1099511627) (hp:TellsI w 48 fv v L p) :
 Calls Tryz.prog 76 #[v,.func (.func 48) #[] #[fv]] w fun e w'=>e=.returned (.int .i64 (idxI p L))/\Fr No w w':=by
 obtain ⟨a,cap,rfl,D,E,z⟩:=hv.shape;have C:=H_ hv;clear hv;have A:=H_ z;clear z;have B:=H_ hp;clear hp;go_enter Tryz.func76,Tryz.ntmps76;go_wp2
 go_loopg [8] L.length (fun g s8 wr=>∃ i:Nat,s8=.int .i64 i/\i+g=L.length/\Hid (∀ j,j<i->∀ x,L[j]?=some x->p x=false)/\Hid (Fr No w wr))
 case atStart=>exact ⟨0,rfl,by simp,H_ (by simp),H_ (Fr.refl No w)⟩
 case round =>
  obtain ⟨i,rfl,H,n,c⟩:=hrel
  cases gk with
  | zero =>
    have s:¬ (i:Int)<(L.length:Int):=(by omega);go_wp2;go_ret;refine ⟨?_,c.out⟩
    have t:L.findIdx p=L.length:=by
     rw [List.findIdx_eq_length];intro x b;obtain ⟨j,m,rfl⟩:=List.getElem_of_mem b;exact n.out j (by omega) _ (List.getElem?_eq_getElem m)
    unfold idxI;rw [if_pos t]
    rfl
  | succ g =>
    obtain ⟨G,go,rfl⟩:=A.out (by omega);obtain ⟨x,b⟩:∃ x,L[i]?=some x:=⟨_,List.getElem?_eq_getElem (by omega)⟩;have l:=C.out.fr0 c.out;have F:=l.cell1 zax i b rfl;have s:(i:Int)<(L.length:Int):=(by omega);have d:=B.out wr x (List.mem_of_getElem? b) (c.out.mono fun _ _ h=>h.elim);have I:=World.block_lt_of_cell? _ _ F;have y:=H_ b;clear b l;generalize k:p x=q at *;have u:=H_ k;clear k;cases q
    · go_wp2_with (go_at_call 48;refine d.mono ?_;rintro e w1 ⟨rfl,o⟩)
      go_roundg g
      case rel=>exact ⟨i+1,by go_num,by omega,H_ (fun j m q hq=>by
       by_cases hji:j=i
       · subst hji;rw [y.out] at hq;cases hq;exact u.out
       exact n.out j (by omega) q hq),H_ (c.out.trans0 o)⟩
      case measure=>omega
    go_wp2_with (go_at_call 48;refine d.mono ?_;rintro e w1 ⟨rfl,o⟩)
    go_ret;refine ⟨?_,c.out.trans0 o⟩
    have t:L.findIdx p=i:=by
     have f:i<L.length:=(by omega);rw [List.findIdx_eq f];have r:L[i]=x:=(List.getElem?_eq_some_iff.1 y.out).2;refine ⟨by rw [r];exact u.out,fun j m=>?_⟩;exact n.out j m _ (List.getElem?_eq_getElem (by omega))
    unfold idxI;rw [t,if_neg (by omega)]
    rfl
set_option maxHeartbeats 8000000 in
theorem zqo (w:World) (v fv:Value) (L:List Int) (p:Int->Bool) (hv:SlF w 3 1 int1 v L) (hl:L.length<=1099511627) (hp:TellsI w 48 fv v L p) :
 Calls Tryz.prog 47 #[v,.func (.func 48) #[] #[fv]] w fun e w'=>∃ v',e=.returned v'/\SlF w' 3 1 int1 v' (L.filter fun x=>!p x)/\Fr (fun b=>v.ownBlock=some b) w w'/\v'.ownBlock=v.ownBlock:=by
 have R:=zqg w v fv L p hv hl hp;obtain ⟨a,cap,rfl,av,aw,ha⟩:=hv.shape;have n:=H_ R;have HP:=H_ hp;clear R hp;by_cases t:L.findIdx p=L.length
 · have f:idxI p L = -1:=by unfold idxI;rw [if_pos t]
   rw [f] at n;have H:=allI t;rw [H];have HV:=H_ hv;clear hv f t H;go_enter Tryz.func47,Tryz.ntmps47;go_wp2_with (go_at_call 76;refine n.out.mono ?_;rintro e w1 ⟨rfl,r⟩);go_ret;exact ⟨_,rfl,HV.out.fr0 r,r.mono fun _ _ h=>h.elim,rfl⟩
 have hk:L.findIdx p<L.length:=Nat.lt_of_le_of_ne List.findIdx_le_length t
 have f:idxI p L=(L.findIdx p:Int):=(by unfold idxI;rw [if_neg t]);rw [f] at n;have I:=firstI rfl hk;generalize ae:L.findIdx p=Y at *;obtain ⟨m,go,rfl⟩:=ha (by omega);have HV:=H_ hv;have A:=H_ I;clear hv f t I ae ha;have aB:((Y:Int) == -1)=false:=(by rw [beq_eq_false_iff_ne];omega);go_enter Tryz.func47,Tryz.ntmps47;go_wp2_with (go_at_call 76;refine n.out.mono ?_;rintro e w1 ⟨rfl,r⟩)
 go_loopg [5,6] L.length (fun g s5 s6 wr=>∃ (k i:Nat) (M:List Int),s5=.int .i64 k/\s6=.int .i64 i/\k<i/\i<=L.length/\i+g=L.length+Y+1/\Y<i/\M.length=L.length/\Hid (M.take k=(L.take i).filter (fun x=>!p x))/\Hid (M.drop i=L.drop i) ∧
  Hid (SlF wr 3 1 int1 (.slice (some ⟨m,go,none⟩) L.length cap) M)/\Hid (Fr (fun b=>b=m) w wr))
 case atStart=>exact ⟨Y,Y+1,L,rfl,by go_num,by omega,by omega,by omega,by omega,rfl,H_ A.out.symm,H_ rfl,H_ (HV.out.fr0 r),H_ (r.mono fun _ _ h=>h.elim)⟩
 case round =>
  obtain ⟨k,i,M,rfl,rfl,aD,ay,az,al,u,HT,HD,HS,HF⟩:=hrel;by_cases hil:i<L.length
  · cases gk with
    | zero=>omega
    | succ g =>
      have Q:(i:Int)<(L.length:Int):=(by omega);have ao:(k:Int)<(L.length:Int):=(by omega);obtain ⟨x,hx⟩:∃ x,L[i]?=some x:=⟨_,List.getElem?_eq_getElem hil⟩
      have D:M[i]?=some x:=by
       have:=congrArg (fun l=>l[0]?) HD.out;simp only [List.getElem?_drop,Nat.add_zero] at this;rw [this];exact hx
      have c:SlF wr 3 1 int1 (.slice (some ⟨m,go,none⟩) M.length cap) M:=(by rw [u];exact HS.out);obtain ⟨y,hy⟩:∃ y,M[k]?=some y:=⟨_,List.getElem?_eq_getElem (by omega)⟩;have ag:m<wr.heap.size:=c.lt m rfl;have V:=HP.out wr x (List.mem_of_getElem? hx) (HF.out.mono fun b _ h=>by rw [h];rfl)
      have U:∀ (W:World),Fr No wr W->SlF (W.setCell ⟨m,go+k,none⟩ (.int .i64 x)) 3 1 int1 (.slice (some ⟨m,go,none⟩) L.length cap) (M.set k x):=fun (W:World) (h:Fr No wr W)=>by
       have:=(c.fr0 h).set zax k 0 (by decide) y x (.int .i64 x) hy rfl;rw [u] at this;simpa using this
      have T:∀ W,Fr (fun b=>b=m) w W->Fr (fun b=>b=m) w (W.setCell ⟨m,go+k,none⟩ (.int .i64 x)):=fun (W:World) h=>h.setCell (.inl rfl) _
      have X:(L.take (i+1)).filter (fun x=>!p x)=(L.take i).filter (fun x=>!p x)++(if p x then [] else [x]):=by
       rw [List.take_add_one,hx,List.filter_append]
       congr 1
       cases hq:p x <;> simp [hq]
      have F:M.drop (i+1)=L.drop (i+1):=by
       have:=congrArg (List.drop 1) HD.out
       rwa [List.drop_drop,List.drop_drop] at this
      generalize hq:p x=q at *;have z0:=c.cell1 zax i D rfl;have u0:=c.cell1 zax k hy rfl;have ab:=c.free;have a7:=H_ U;have a6:=H_ T;have B:=H_ V;have C:=H_ X;have z:=H_ F;have a9:=H_ c;clear U T V X F c hx D hq ab;cases q
      · go_wp2_with (go_at_call 48;refine B.out.mono ?_;rintro e Z ⟨rfl,s⟩
                     have u0:=s.cell0 u0;have ak:∀ j,Z.frozen? ⟨m,j,none⟩=false:=fun j=>(a9.out.fr0 s).free j;have ar:m<Z.heap.size:=Nat.lt_of_lt_of_le ag s.size)
        go_roundg g
        case rel=>exact ⟨k+1,i+1,_,by go_num,by go_num,by omega,by omega,by omega,by omega,by rw [List.length_set];exact u,H_ (by rw [zrx _ _ _ (by omega),C.out,HT.out];simp),H_ (by rw [zry _ _ _ _ (by omega)];exact z.out),H_ (a7.out Z s),H_ (a6.out Z (HF.out.trans0 s))⟩
        case measure=>omega
      go_wp2_with (go_at_call 48;refine B.out.mono ?_;rintro e Z ⟨rfl,G⟩)
      go_roundg g
      case rel=>exact ⟨k,i+1,M,rfl,by go_num,by omega,by omega,by omega,by omega,u,H_ (by rw [C.out,HT.out];simp),z,H_ (HS.out.fr0 G),H_ (HF.out.trans0 G)⟩
      case measure=>omega
  have Q:¬ (i:Int)<(L.length:Int):=by omega
  have ad:i=L.length:=(by omega);have aa:Hid (M.take k=L.filter (fun x=>!p x)):=H_ (by rw [HT.out,ad,List.take_length]);clear HT HD n HV A HP;have aE:(k:Int)<=(L.length:Int):=(by omega);have aC:(k:Int)<=(cap:Int):=(by omega);have am:k<=cap:=(by omega);have an:¬ cap=k:=(by omega);have c:SlF wr 3 1 int1 (.slice (some ⟨m,go,none⟩) M.length cap) M:=(by rw [u];exact HS.out)
  obtain ⟨d,o,J⟩:∃ d:Array Value,wr.heap[m]?=some (.cells d 3 (0,0))/\go+L.length * 1<=d.size:=by
   rcases c.2 with ⟨t,_⟩ | ⟨g',o',ai,d,hv,hg,h2,h3,h4,h5⟩
   · cases t
   simp only [Value.slice.injEq,Option.some.injEq,Addr.mk.injEq,and_true] at hv
   obtain ⟨⟨rfl,rfl⟩,_,rfl⟩:=hv;have:L.length * 1<=cap * 1:=Nat.mul_le_mul_right _ (by omega);exact ⟨d,hg,by omega⟩
  have S:go+k+(L.length-k) * 1<=d.size:=(by omega);obtain ⟨w3,ap,N,O⟩:=zcr (P:=Tryz.prog) wr 48 3 0 _ Tryz.underlying48 zero3 (by decide) m (go+k) (L.length-k) (cap-k) d 3 o (by exact S);have K:Fr (fun b=>b=m) wr w3:=(Fr.refl _ wr).grown O fun j hj=>.inl (by simpa using hj.symm);have E:=SlF.cleared zax c k (by omega) d o (Builtin.zeroCells (Value.int .i64 0).cells (L.length-k)).toList (by rw [zbc,u];rfl) (by rw [u,Nat.mul_one];exact N);have a4:=H_ E;clear c E N O o J S;go_wp2;go_ret;exact ⟨_,rfl,by rw [<-aa.out];exact a4.out,(HF.out.trans K fun _ _ h=>h).mono fun b _ h=>by rw [h];rfl,rfl⟩
def upB (H:Hb) (i:Int):Bool:=match getH H.L i with
 | none=>false
 | some s=>decide (H.fed<s.place)
theorem zkh {H:Hb} (hk:HbOk H):(H.L.map (·.1)).filter (fun i=>!upB H i)=zdy H:=by
 unfold zdy;rw [List.filter_map]
 congr 1
 refine List.filter_congr fun p hp=>?_;have:=(zcu hk.up).2 (show (p.1,p.2)∈H.L from hp);simp only [Function.comp,upB,this];by_cases h:H.fed<p.2.place
 · simp [h] <;> omega
 simp [h] <;> omega
set_option maxHeartbeats 4000000 in
theorem zki {w:World} {h st m:Nat} {hp:Int->Option Nat} {FL:Int->Nat->Prop} {H:Hb} (a:HubR w h st m hp FL H) {i:Int} (hi:(Lit.int .i64 i).wf=true) (hin:i∈H.L.map (·.1)) {c:Nat} (hc:w.cell? ⟨c,0,none⟩=some (.pointer (some ⟨h,0,none⟩))) :
 Calls Tryz.prog 48 #[.int .i64 i,.pointer (some ⟨c,0,none⟩)] w fun e w'=>e=.returned (.bool (upB H i))/\Fr No w w':=by
 obtain ⟨s,k⟩:=(zia a.ok.up).2 hin;have g:upB H i=decide (H.fed<s.place):=by unfold upB;rw [k]
 obtain ⟨p,f,bv,d,_⟩:=a.sm i s k;have b:=(a.map.fr (Fr.refl No w).drew fun h=>h).look Tryz.underlying94 Tryz.underlying3 hi (zero98 w.drew);rw [f] at b;simp only [Option.map_some,Option.getD_some] at b;have o:=a.obj.cell 3 rfl;have n:=a.obj.cell 1 rfl;have u:=a.obj.lt;have q:=d.1.cell 7 rfl;have v:=d.1.lt;have t:=World.block_lt_of_cell? _ _ hc;have A:w.drew.cell? ⟨c,0,none⟩=some (.pointer (some ⟨h,0,none⟩)):=hc;have B:w.drew.cell? ⟨h,1,none⟩=some (.int .i64 H.fed):=n;have D:w.drew.cell? ⟨h,3,none⟩=some (.map (some m)):=o;have E:w.drew.cell? ⟨p,7,none⟩=some (.int .i64 s.place):=q;have x:h<w.drew.heap.size:=u;have y:p<w.drew.heap.size:=v;have z:c<w.drew.heap.size:=t;have r:(s.place > H.fed)=(H.fed<s.place):=rfl;rw [g];have j:=H_ b
 clear b k f d hin g a hi n o q hc;go_enter Tryz.func48,Tryz.ntmps48;go_wp2_with fail;refine zba (C:=fun Z=>Z=w.drew) (by kernel_rfl) (by kernel_rfl) rfl ?_
 repeat (refine (wpQuiet_step (fun K hK=>?_):_)
         go_simp
         first
          | (refine hK _ ?_;clear hK K)
          | (refine ⟨.pointer (some ⟨p,0,none⟩),?lk,hK _ ?_⟩
             case lk=>rw [j.out];exact ⟨rfl,rfl⟩
             clear hK K)
          | (apply Exists.intro
             refine ⟨fun W hW=>?_,hK _ ?_⟩
             (first
               | exact rfl
               | (subst hW;go_simp;exact rfl))
             clear hK K))
 refine (wpQuiet_nil ?_:_);intro F l;subst l;go_wp2;go_ret;exact ⟨rfl,(Fr.refl No w).drew⟩
theorem zil (w:World):Calls Tryz.prog 17 #[.pointer none] w fun e w'=>e=.returned (.slice none 0 0)/\Fr No w w':=by
 go_enter Tryz.func17,Tryz.ntmps17;go_wp2;go_ret;exact ⟨rfl,(Fr.refl No w).alloc _⟩
set_option maxHeartbeats 4000000 in
theorem zmo {w:World} {h st:Nat} {H:Hb} {F:Nat->Prop} (hH:HubAt w h st H F) (hn:H.L.length<=1000) (hl:H.last<=1000000) :
 Calls Tryz.prog 17 #[.pointer (some ⟨h,0,none⟩)] w fun e w'=>∃ v,e=.returned v/\SlF w' 3 1 int1 v (zdy H)/\Fr No w w'/\(∀ b,v.ownBlock=some b->w.heap.size<=b):=by
 obtain ⟨m,Q,O,a,hF⟩:=hH;have t:=fun W (hW:Fr No w W)=>zlx (a.fr hW fun _ _ s=>s) hn
 have l:=fun W (hW:Fr No w W) c (hc:W.cell? ⟨c,0,none⟩=some (.pointer (some ⟨h,0,none⟩))) i (hin:i∈H.L.map (·.1))=>zki (a.fr hW fun _ _ s=>s) (i:=i) (by
  obtain ⟨q,J,rfl⟩:=List.mem_map.1 hin;have:=a.ok.ids q J;simp [Lit.wf,IntKind.min,IntKind.max,IntKind.signed,IntKind.bits];omega) hin hc
 have o:=zkh a.ok;have u:(H.L.map (·.1)).length<=1099511627:=by rw [List.length_map];omega
 have n:=zad w (.cells #[.pointer (some ⟨h,0,none⟩)] 35) _ rfl;have r:Fr No w (w.alloc (.cells #[.pointer (some ⟨h,0,none⟩)] 35)):=(Fr.refl No w).alloc _;have B:=H_ t;have z:=H_ l;have A:=H_ o;have j:=H_ n;have d:=H_ r;clear a t l hF o n r;go_enter Tryz.func17,Tryz.ntmps17;go_upto_region 1 with fail;generalize D:w.alloc (.cells #[.pointer (some ⟨h,0,none⟩)] 35)=C at *;have I:C.cell? ⟨w.heap.size,0,none⟩=some (.pointer (some ⟨h,0,none⟩)):=cellAt j.out 0 rfl;have R:=zaf j.out;clear D
 go_wp2_with (first
  | (go_at_call 43;(with_reducible refine (B.out _ d.out).mono ?_);rintro e N ⟨v,rfl,K,g,f⟩
     have k:=H_ (zqo N v (.pointer (some ⟨w.heap.size,0,none⟩)) _ (upB H) K u fun W x hx hW=>z.out W ((d.out.trans0 g).trans hW fun b hb e=>by have:=f b e;have:=d.out.size;omega) _ ((hW.mono (T:=fun b=>C.heap.size<=b) fun b _ e=>f b e).cell ((g.cell0 I)) (fun e=>by have P:C.heap.size<=w.heap.size:=e;omega)) x hx))
  | (go_at_call 47;(with_reducible refine k.out.mono ?_);rintro e S ⟨M,rfl,y,E,G⟩))
 go_ret;rw [A.out] at y;refine ⟨M,rfl,y,(d.out.trans0 g).trans E fun b hb e=>?_,fun b hb=>?_⟩
 · have:=f b e
   have:=d.out.size;omega
 rw [G] at hb
 have:=f b hb;have:=d.out.size;omega
theorem Good.does_at {k:Nat} {S:St} {D:Doc} (h:Good k S D) (hk:k<=70) {q:CalQ} (hq:fewCal q=true) :
 D.rev<=(doD S D q).rev/\(doD S D q).rev<=D.rev+1/\D.mark<=(doD S D q).mark/\∀ r,(doD S D q).mark<=r->r<=D.rev->(doD S D q).at r=D.at r:=by
 obtain ⟨f,l,g,m,n⟩:=zic hq;have i:=h.cpl.m0
 have key:∀ E:List Ev,(∀ e∈E,e.kv.mod=D.rev+1)->D.rev<=(D.adds E).rev/\(D.adds E).rev<=D.rev+1/\D.mark<=(D.adds E).mark/\∀ r,(D.adds E).mark<=r->r<=D.rev->(D.adds E).at r=D.at r:=fun E hE=>by
  have c:=Doc.adds_rev D E _ hE;have s:=(Doc.adds_parts D E).1;refine ⟨by rw [c];split <;> omega,by rw [c];split <;> omega,by omega,fun r _ hr=>Doc.adds_at_old D E fun e b=>by have:=hE e b;omega⟩
 have same:D.rev<=D.rev/\D.rev<=D.rev+1/\D.mark<=D.mark/\∀ r,D.mark<=r->r<=D.rev->D.at r=D.at r:=⟨by omega,by omega,by omega,fun _ _ _=>rfl⟩;unfold doD;by_cases h4:kindN q.1.kind=4
 · rw [if_pos h4];exact same
 rw [if_neg h4]
 by_cases h5:kindN q.1.kind=5
 · rw [if_pos h5]
   by_cases hc:zbl S q.1.rev=0
   · rw [if_pos hc]
     obtain ⟨j,d⟩:=zdx hc;rw [h.cpl.mark] at d;exact ⟨Int.le_refl _,by show D.rev<=D.rev+1;omega,by show D.mark<=q.1.rev;omega,fun r hr _=>Doc.cut_at h.doc.es (by omega) hr fun e b=>(h.doc.lo e b).2.2⟩
   rw [if_neg hc];exact same
 rw [if_neg h5]
 by_cases h6:kindN q.1.kind=6
 · rw [if_pos h6];exact same
 rw [if_neg h6]
 by_cases h7:kindN q.1.kind=7
 · rw [if_pos h7]
   refine key _ ?_;obtain ⟨a,_⟩:=h.drops hk q.2.2 g q.2.2.length (Nat.le_refl _);have b:dropTo (D.rev+1) S q.2.2 q.2.2.length=q.2.2.foldl (dropR (D.rev+1)) (S,[]):=(by unfold dropTo;rw [List.take_length]);rw [b] at a;exact a.mods
 rw [if_neg h7]
 by_cases ha:applyE S q.2.1=0
 · rw [if_pos ha]
   refine key _ ?_;obtain ⟨⟨a,_⟩,_⟩:=h.runs hk (zbw ha).1 (fun o ho=>by have:=(f o ho).1;omega) q.2.1.length (Nat.le_refl _);rw [List.take_length] at a;exact a.mods
 rw [if_neg ha];exact same
theorem SlR.lt {α:Type} {f:α->List Value} {w:World} {sz:Nat} {v:Value} {L:List α} (h:SlR w sz f v L) (hf:∀ x,(f x).length=sz) (hsz:0<sz) (hp:0<L.length):∀ b,v.ownBlock=some b->b<w.heap.size:=by
 intro b e;obtain ⟨a,cap,rfl,k,l,c⟩:=h;obtain ⟨g,o,rfl,d⟩:=c hp;obtain rfl:g=b:=by simpa [Value.ownBlock] using e
 have j:L[0]?=some L[0]:=List.getElem?_eq_getElem hp;have i:0<(f L[0]).length:=by rw [hf];exact hsz
 exact World.block_lt_of_cell? _ _ (d 0 _ j 0 _ (List.getElem?_eq_getElem i))
end Go.Proofs.YtdgkdfmfoonbpaaGreat