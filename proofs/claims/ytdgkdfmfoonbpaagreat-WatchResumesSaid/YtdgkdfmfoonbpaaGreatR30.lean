/- Own lemmas. -/
import Derived.Test.YtdgkdfmfoonbpaaGreatR29
import Derived.Test.YtdgkdfmfoonbpaaGreatR27
import Derived.Test.YtdgkdfmfoonbpaaGreatR23
import Derived.Test.YtdgkdfmfoonbpaaGreatR25
import Derived.Test.YtdgkdfmfoonbpaaGreatR26
import Derived.Test.YtdgkdfmfoonbpaaGreatR05
import Derived.Test.YtdgkdfmfoonbpaaGreatR18
import Derived.Test.YtdgkdfmfoonbpaaGreatR28
import Derived.Deep.MidRow
import Derived.Deep.WholeRow
namespace Go.Proofs.YtdgkdfmfoonbpaaGreat
open Go Go.Proofs Go.RowKit
set_option maxRecDepth 100000
def wkA:ByteArray:=⟨#[97]⟩
def wkB:ByteArray:=⟨#[98]⟩
def wk1:ByteArray:=⟨#[49]⟩
def wk2:ByteArray:=⟨#[50]⟩
def wk3:ByteArray:=⟨#[51]⟩
def wkS1:St:=applyS newS [putO wkA wk1]
def wkD1:Doc:=applyD newS newD [putO wkA wk1]
def wkS2:St:=applyS wkS1 [putO wkB wk2]
def wkD2:Doc:=applyD wkS1 wkD1 [putO wkB wk2]
def wkS3:St:=applyS wkS2 [putO wkA wk3]
def wkD3:Doc:=applyD wkS2 wkD2 [putO wkA wk3]
theorem wkE1:applyE newS [putO wkA wk1]=0:=by kernel_rfl
theorem wkE2:applyE wkS1 [putO wkB wk2]=0:=by kernel_rfl
theorem wkE3:applyE wkS2 [putO wkA wk3]=0:=by kernel_rfl
theorem wkG1:Good 1 wkS1 wkD1:=Good.new.apply (by omega) (zbu wkE1).1 (fun o ho=>by rw [List.mem_singleton.1 ho];decide)
theorem wkG2:Good 2 wkS2 wkD2:=wkG1.apply (by omega) (zbu wkE2).1 (fun o ho=>by rw [List.mem_singleton.1 ho];decide)
theorem wkG3:Good 3 wkS3 wkD3:=wkG2.apply (by omega) (zbu wkE3).1 (fun o ho=>by rw [List.mem_singleton.1 ho];decide)
def wkT1:Wt:=⟨wkA,⟨#[0]⟩,1,false,false,false⟩
def wkT2:Wt:=⟨wkA,⟨#[]⟩,0,false,false,false⟩
def wkH2:Hb:=openH (openH ⟨2,0,[]⟩ wkT1) wkT2
def wkH3:Hb:=takeH wkD2 wkH2 1
def wkH4:Hb:=takeH wkD3 wkH3 2
def wkH5:Hb:=feedH wkD3 wkH4
def wkH6:Hb:=takeH wkD3 wkH5 2
theorem wkO1:openE wkT1=0:=by kernel_rfl
theorem wkO2:openE wkT2=0:=by kernel_rfl
theorem wkR2:wkS2.rev=2:=by kernel_rfl
theorem wkX1:takeE wkH2 1=0:=by kernel_rfl
theorem wkX2:(takeB wkD2 wkH2 1).evs.length=2:=by kernel_rfl
theorem wkX3:(takeB wkD2 wkH2 1).rev=2:=by kernel_rfl
theorem wkY1:takeE wkH3 2=0:=by kernel_rfl
theorem wkY2:(takeB wkD3 wkH3 2).evs.length=0:=by kernel_rfl
theorem wkZ1:takeE wkH5 2=0:=by kernel_rfl
theorem wkZ2:(takeB wkD3 wkH5 2).evs.length=1:=by kernel_rfl
theorem wkZ3:(takeB wkD3 wkH5 2).rev=3:=by kernel_rfl
theorem wkF:wkH6.fed=3:=by kernel_rfl
theorem Both.put {TA:zai} (hT:TreeOk TA 1000000) {w:World} {h st k n:Nat} {S:St} {D:Doc} {H:Hb} {B:Nat->Prop} (a:Both TA w h st k n S D H B) (hk:k<=200) (x y:ByteArray) (ha:x.size<=3000) (he:applyE S [putO x y]=0) (hmono:D.rev<=(applyD S D [putO x y]).rev) :
 Calls Tryz.prog 39 #[.pointer (some ⟨st,0,none⟩),.string x,.string y] w fun e w'=>e=.returned (.tuple #[])/\∃ B',Both TA w' h st (k+1) n (applyS S [putO x y]) (applyD S D [putO x y]) H B'/\Fr B w w'/\(∀ b,B' b->B b\/w.heap.size<=b):=by
 obtain ⟨p,F,G,f,m,g,r,i,t⟩:=a;refine (zfo hT p.good hk w st G m x y ha he).mono ?_;rintro e w' ⟨rfl,d,b1,b2,j⟩;have s:=p.good.apply hk (zbu he).1 (fun o ho=>by rw [List.mem_singleton.1 ho];show x.size<=_;omega);refine ⟨rfl,fun b=>F b\/d b,⟨⟨s,p.q,by have:=p.fed;omega,p.len,p.last⟩,F,d,f.fr b2 fun b c h2=>g b c h2,b1,fun b c h2=>?_,fun _=>.inl,fun _=>.inr,fun _ h=>h⟩,b2.mono fun b _ h=>i b h,fun b hb=>?_⟩
 · rcases j b h2 with l | l
   · exact g b c l
   have:=f.lt b c
   omega
 rcases hb with c | c
 · exact .inl (r b c)
 exact (j b c).imp (i b) id
theorem wkM:wkD2.rev<=wkD3.rev:=by rw [<-wkG2.rev,<-wkG3.rev];exact (by kernel_rfl:decide (wkS2.rev<=wkS3.rev)=true) |> of_decide_eq_true
theorem wkX4:(takeB wkD2 wkH2 1).cancel=false:=by kernel_rfl
theorem wkY3:(takeB wkD3 wkH3 2).cancel=false:=by kernel_rfl
theorem wkY4:(takeB wkD3 wkH3 2).rev=2:=by kernel_rfl
theorem wkZ4:(takeB wkD3 wkH5 2).cancel=false:=by kernel_rfl
section
variable {TA:zai} (hT:TreeOk TA 1000000) {W:World} {h st:Nat} {B:Nat->Prop}
include hT
theorem zvx (a:Both TA W h st 2 0 wkS2 wkD2 ⟨2,0,[]⟩ B):Calls Tryz.prog 12 #[.pointer (some ⟨h,0,none⟩),.agg #[.string ⟨#[97]⟩,.string ⟨#[0]⟩,.int .i64 1,.bool false,.bool false,.bool false]] W fun e w' =>
 e=.returned (.tuple #[.int .i64 1,.int .i64 0])/\∃ B',Both TA w' h st 2 1 wkS2 wkD2 (openH ⟨2,0,[]⟩ wkT1) B'/\Fr B W w'/\∀ b,B' b->B b\/W.heap.size<=b:=by
 have h:=a.open hT (by omega) (by omega) wkT1 (by decide) (by kernel_rfl);rw [wkO1] at h;exact h
theorem zvw (a:Both TA W h st 2 1 wkS2 wkD2 (openH ⟨2,0,[]⟩ wkT1) B):Calls Tryz.prog 12 #[.pointer (some ⟨h,0,none⟩),.agg #[.string ⟨#[97]⟩,.string ⟨#[]⟩,.int .i64 0,.bool false,.bool false,.bool false]] W fun e w' =>
 e=.returned (.tuple #[.int .i64 2,.int .i64 0])/\∃ B',Both TA w' h st 2 2 wkS2 wkD2 wkH2 B'/\Fr B W w'/\∀ b,B' b->B b\/W.heap.size<=b:=by
 have h:=a.open hT (by omega) (by omega) wkT2 (by decide) (by kernel_rfl);rw [wkO2] at h;exact h
theorem zvv (a:Both TA W h st 2 2 wkS2 wkD2 wkH2 B):Calls Tryz.prog 14 #[.pointer (some ⟨h,0,none⟩),.int .i64 1] W fun e w' =>
 ∃ x c,e=.returned (.tuple #[.agg #[.slice x 2 c,.int .i64 2,.bool false],.int .i64 0])/\∃ B',Both TA w' h st 2 2 wkS2 wkD2 wkH3 B'/\Fr B W w'/\∀ b,B' b->B b\/W.heap.size<=b:=by
 refine (a.take hT (by omega) 1 (by kernel_rfl)).mono ?_;rintro e w' ⟨v,rfl,f,B',b1,b2,d,_⟩;obtain ⟨x,c,rfl,_⟩:=f.shape;exact ⟨x,c,by unfold batV;rw [wkX1,wkX2,wkX3,wkX4],B',b1,b2,d⟩
theorem zvu (a:Both TA W h st 3 2 wkS3 wkD3 wkH3 B):Calls Tryz.prog 14 #[.pointer (some ⟨h,0,none⟩),.int .i64 2] W fun e w' =>
 ∃ x c,e=.returned (.tuple #[.agg #[.slice x 0 c,.int .i64 2,.bool false],.int .i64 0])/\∃ B',Both TA w' h st 3 2 wkS3 wkD3 wkH4 B'/\Fr B W w'/\∀ b,B' b->B b\/W.heap.size<=b:=by
 refine (a.take hT (by omega) 2 (by kernel_rfl)).mono ?_;rintro e w' ⟨v,rfl,f,B',b1,b2,d,_⟩;obtain ⟨x,c,rfl,_⟩:=f.shape;exact ⟨x,c,by unfold batV;rw [wkY1,wkY2,wkY3,wkY4],B',b1,b2,d⟩
theorem zvt (a:Both TA W h st 3 2 wkS3 wkD3 wkH5 B):Calls Tryz.prog 14 #[.pointer (some ⟨h,0,none⟩),.int .i64 2] W fun e w' =>
 ∃ x c,e=.returned (.tuple #[.agg #[.slice x 1 c,.int .i64 3,.bool false],.int .i64 0])/\∃ B',Both TA w' h st 3 2 wkS3 wkD3 wkH6 B'/\Fr B W w'/\∀ b,B' b->B b\/W.heap.size<=b:=by
 refine (a.take hT (by omega) 2 (by kernel_rfl)).mono ?_;rintro e w' ⟨v,rfl,f,B',b1,b2,d,_⟩;obtain ⟨x,c,rfl,_⟩:=f.shape;exact ⟨x,c,by unfold batV;rw [wkZ1,wkZ2,wkZ3,wkZ4],B',b1,b2,d⟩
theorem wkPut3 (a:Both TA W h st 2 2 wkS2 wkD2 wkH3 B):Calls Tryz.prog 39 #[.pointer (some ⟨st,0,none⟩),.string ⟨#[97]⟩,.string ⟨#[51]⟩] W fun e w' =>
 e=.returned (.tuple #[])/\∃ B',Both TA w' h st 3 2 wkS3 wkD3 wkH3 B'/\Fr B W w'/\∀ b,B' b->B b\/W.heap.size<=b:=a.put hT (by omega) wkA wk3 (by decide) wkE3 wkM
theorem wkFeed (a:Both TA W h st 3 2 wkS3 wkD3 wkH4 B):Calls Tryz.prog 13 #[.pointer (some ⟨h,0,none⟩)] W fun e w' =>
 e=.returned (.tuple #[])/\∃ B',Both TA w' h st 3 2 wkS3 wkD3 wkH5 B'/\Fr B W w'/\∀ b,B' b->B b\/W.heap.size<=b:=a.feed hT (by omega) (by omega)
omit hT in
theorem wkFed (a:Both TA W h st 3 2 wkS3 wkD3 wkH6 B):Calls Tryz.prog 16 #[.pointer (some ⟨h,0,none⟩)] W fun e w'=>e=.returned (.int .i64 3)/\W=w':=by
 have h:=a.fedC;rw [wkF] at h;exact h
end
theorem newer {B B':Nat->Prop} {w0 w1:World} (h0:∀ b,B b->w0.heap.size<=b) (h1:∀ b,B' b->B b\/w1.heap.size<=b) (h:w0.heap.size<=w1.heap.size):∀ b,B' b->w0.heap.size<=b:=fun b hb=>(h1 b hb).elim (h0 b) fun x=>by omega
theorem frNew {B:Nat->Prop} {w0 w1 w2:World} (h0:∀ b,B b->w0.heap.size<=b) (f1:Fr No w0 w1) (f2:Fr B w1 w2):Fr No w0 w2:=f1.trans f2 fun j hj x=>by have:=h0 j x;omega
set_option maxHeartbeats 8000000 in
theorem zkr {TA:zai} (hT:TreeOk TA 1000000) (w:World):Calls Tryz.prog 10 #[] w fun e w'=>e=.returned (.bool true)/\Fr No w w':=by
 have p1:=fun W s F hS=>zfo hT Good.new (by omega) W s F hS wkA wk1 (by decide) wkE1;have p2:=fun W s F hS=>zfo hT wkG1 (by omega) W s F hS wkB wk2 (by decide) wkE2;unfold wkA wk1 at p1;unfold wkB wk2 at p2;have P1:=H_ p1;have P2:=H_ p2;clear p1 p2;go_enter Tryz.func10,Tryz.ntmps10;go_upto_region 2 with (go_at_call 19;refine (zfm hT _).mono ?_;rintro e w1 ⟨s,rfl,F1,s1,f1,n1⟩);go_upto_region 3 with (go_at_call 39;refine (P1.out _ _ _ s1).mono ?_;rintro e w2 ⟨rfl,F2,s2,f2,n2⟩);have k1:=frNew (fun b hb=>n1 b hb) f1 f2;have k2:=newer n1 n2 f1.size;have K1:=H_ k1;have K2:=H_ k2;clear k1 k2 f1 n1 s1 f2 n2;have md:=fun W (G:Nat->Prop) (hS:zal TA W s wkS2 G)=>Both.made hT (k:=2) (D:=wkD2) wkG2 hS (by rw [wkR2];decide);simp only [wkR2] at md;have MD:=H_ md;clear md
 go_upto_region 5 with (first
  | (go_at_call 39;refine (P2.out _ _ _ s2).mono ?_;rintro e w3 ⟨rfl,F3,s3,f3,n3⟩)
  | (go_at_call 11;refine (MD.out _ _ s3).mono ?_;rintro e w4 ⟨h,rfl,B4,b4,f4,n4⟩))
 have g4:=(frNew K2.out K1.out f3).trans0 f4;have m4:=newer (newer K2.out n3 K1.out.size) n4 (frNew K2.out K1.out f3).size;have G4:=H_ g4;have M4:=H_ m4;have ai:=H_ b4;clear g4 m4 b4 f4 n4 s3 f3 n3 s2 MD P1 P2;go_upto_region 8 with (go_at_call 12;(with_reducible refine (zvx hT ai.out).mono ?_);rintro e w5 ⟨rfl,B5,b5,f5,n5⟩);have G5:=H_ (frNew M4.out G4.out f5);have M5:=H_ (newer M4.out n5 G4.out.size);have aj:=H_ b5;clear b5 f5 n5;go_upto_region 9 with (go_at_call 12;(with_reducible refine (zvw hT aj.out).mono ?_);rintro e w6 ⟨rfl,B6,b6,f6,n6⟩);have G6:=H_ (frNew M5.out G5.out f6);have M6:=H_ (newer M5.out n6 G5.out.size);have ak:=H_ b6;clear b6 f6 n6;go_upto_region 10 with (go_at_call 14;(with_reducible refine (zvv hT ak.out).mono ?_);rintro e w7 ⟨xa,xc,rfl,B7,b7,f7,n7⟩)
 have a5:=zae w7 (Obj.cells #[.slice xa 2 xc,.int .i64 2,.bool false] 43) _ rfl;have n:=(Fr.refl No w7).alloc (Obj.cells #[.slice xa 2 xc,.int .i64 2,.bool false] 43);have a7:∀ b,B7 b->b<w7.heap.size:=b7.lt hT;have al:=H_ (b7.fr0 hT n);have G8:=H_ ((frNew M6.out G6.out f7).trans0 n);have M8:=H_ (newer M6.out n7 G6.out.size);have ax:=n.size;generalize w7.alloc (Obj.cells #[.slice xa 2 xc,.int .i64 2,.bool false] 43)=W8 at *;generalize w7.heap.size=x at *;have a1:=H_ a7;have X:=H_ a5;clear b7 f7 n7 n a7 a5 ax;go_upto_region 11 with (go_at_call 39;(with_reducible refine (wkPut3 hT al.out).mono ?_);rintro e w9 ⟨rfl,B9,b9,f9,n9⟩);have aw:x<W8.heap.size:=zac X.out;have a6:=f9.heap X.out fun h=>by have:=a1.out x h;omega
 have a8:∀ b,B9 b->b≠x:=fun b hb e=>by
  rcases n9 b hb with h | h
  · have:=a1.out b h;omega
  omega
 have Y:=H_ a6;have a2:=H_ a8;have am:=H_ b9;have G9:=H_ (frNew M8.out G8.out f9);have M9:=H_ (newer M8.out n9 G8.out.size);clear b9 f9 n9 a6 a8 aw;go_upto_region 12 with (go_at_call 14;(with_reducible refine (zvu hT am.out).mono ?_);rintro e j ⟨ya,yc,rfl,Q,M,N,O⟩);have B:=N.heap Y.out fun h=>a2.out x h rfl
 have J:∀ b,Q b->b≠x:=fun b hb e=>by
  rcases O b hb with h | h
  · exact a2.out b h e
  have:=zac Y.out;omega
 have A:=zae j (Obj.cells #[.slice ya 0 yc,.int .i64 2,.bool false] 43) _ rfl;have f:=(Fr.refl No j).alloc (Obj.cells #[.slice ya 0 yc,.int .i64 2,.bool false] 43);have L:∀ b,Q b->b<j.heap.size:=M.lt hT;have R:=H_ (M.fr0 hT f);have U:=H_ ((frNew M9.out G9.out N).trans0 f);have a0:=H_ (newer M9.out O G9.out.size);have q:=H_ (f.heap B id);generalize j.alloc (Obj.cells #[.slice ya 0 yc,.int .i64 2,.bool false] 43)=bk at *;generalize j.heap.size=y at *;have t:=H_ J;have v:=H_ L;have r:=H_ A;clear M N O f J L A B;go_upto_region 13 with (go_at_call 13;(with_reducible refine (wkFeed hT R.out).mono ?_);rintro e bm ⟨rfl,ah,a3,l,P⟩);have C:=l.heap q.out fun h=>t.out x h rfl
 have H:=l.heap r.out fun h=>by have:=v.out y h;omega
 have K:∀ b,ah b->b≠x/\b≠y:=fun b hb=>by
  have h1:=zac q.out;have h2:=zac r.out;rcases P b hb with h | h
  · exact ⟨t.out b h,fun e=>by have:=v.out b h;omega⟩
  exact ⟨by omega,by omega⟩
 have V:=H_ C;have Z:=H_ H;have u:=H_ K;have S:=H_ a3;have an:=H_ (frNew a0.out U.out l);have ap:=H_ (newer a0.out P U.out.size);clear a3 l P C H K;go_upto_region 14 with (go_at_call 14;(with_reducible refine (zvt hT S.out).mono ?_);rintro e o ⟨za,zc,rfl,bh,a4,m,az⟩);have E:=m.heap V.out fun h=>(u.out x h).1 rfl;have I:=m.heap Z.out fun h=>(u.out y h).2 rfl;have d:=zae o (Obj.cells #[.slice za 1 zc,.int .i64 3,.bool false] 43) _ rfl;have a:=(Fr.refl No o).alloc (Obj.cells #[.slice za 1 zc,.int .i64 3,.bool false] 43);have T:=H_ (a4.fr0 hT a);have ao:=H_ ((frNew ap.out an.out m).trans0 a);have c:=a.heap E id;have g:=a.heap I id
 generalize o.alloc (Obj.cells #[.slice za 1 zc,.int .i64 3,.bool false] 43)=i at *;generalize o.heap.size=z at *;clear a4 m az a E I;have x0:i.cell? ⟨x,0,none⟩=some (.slice xa 2 xc):=cellAt c 0 rfl;have x1:i.cell? ⟨x,1,none⟩=some (.int .i64 2):=cellAt c 1 rfl;have y0:i.cell? ⟨y,0,none⟩=some (.slice ya 0 yc):=cellAt g 0 rfl;have z0:i.cell? ⟨z,0,none⟩=some (.slice za 1 zc):=cellAt d 0 rfl;have z1:i.cell? ⟨z,1,none⟩=some (.int .i64 3):=cellAt d 1 rfl;have lx:=zac c;have ly:=zac g;have lz:=zac d;clear c g d;go_wp2_with (go_at_call 16;(with_reducible refine (wkFed T.out).mono ?_);rintro e bn ⟨rfl,rfl⟩);go_ret;exact ⟨rfl,ao.out⟩
structure ActQ where
 kind:Int
 call:CalQ
 w:Wt
 id:Int
def wtC (t:Wt):List Value:=[.string t.key,.string t.end_,.int .i64 t.frm,.bool t.np,.bool t.nd,.bool t.prev]
def actC (a:ActQ):List Value:=.int .i64 a.kind :: (calC a.call++(wtC a.w++[.int .i64 a.id]))
theorem zam (a:ActQ):(actC a).length=20:=rfl
structure ActR (w:World) (v:Value) (l:List ActQ):Prop where
 sl:SlR w 20 actC v l
 ops:∀ (i:Nat) q,l[i]?=some q->SlR w 10 opC q.call.1.ops q.call.2.1
 keys:∀ (i:Nat) q,l[i]?=some q->SlR w 1 strC q.call.1.keys q.call.2.2
 frm:∀ (i:Nat) q,l[i]?=some q->(Lit.int .i64 q.w.frm).wf=true
 id:∀ (i:Nat) q,l[i]?=some q->(Lit.int .i64 q.id).wf=true
theorem ActR.fr0 {w w':World} {v:Value} {l:List ActQ} (h:ActR w v l) (hf:Fr No w w'):ActR w' v l:=⟨h.sl.fr0 hf,fun i q hq=>(h.ops i q hq).fr0 hf,fun i q hq=>(h.keys i q hq).fr0 hf,h.frm,h.id⟩
def fewW (t:Wt):Bool:=fewKey t.key&&fewKey t.end_
def fewAct (a:ActQ):Bool:=fewCal a.call&&fewW a.w
def zda (l:List ActQ):Bool:=decide (l.length<=60)&&l.all fewAct
theorem zed {l:List ActQ} (h:zda l=true):l.length<=60/\∀ a∈l,fewCal a.call=true/\a.w.key.size<=3000/\a.w.end_.size<=3000:=by
 unfold zda at h;rw [Bool.and_eq_true,decide_eq_true_eq,List.all_eq_true] at h;refine ⟨h.1,fun a ha=>?_⟩;have:=h.2 a ha;unfold fewAct fewW fewKey at this;simp only [Bool.and_eq_true,decide_eq_true_eq] at this;exact ⟨this.1,this.2.1,this.2.2⟩
theorem zjq (w:World) (t:Wt):Calls Tryz.prog 18 #[wtV t] w fun e w'=>e=.returned (.bool (fewW t))/\Fr No w w':=by
 unfold wtV;have d:fewW t=(decide (t.key.size<=3000)&&decide (t.end_.size<=3000)):=rfl;have a:=H_ d;clear d;by_cases h1:t.key.size<=3000
 · have b:(t.key.size:Int)<=3000:=by omega
   by_cases h2:t.end_.size<=3000
   · have c:(t.end_.size:Int)<=3000:=by omega
     go_enter Tryz.func18,Tryz.ntmps18;go_wp2;go_ret;exact ⟨by rw [a.out];simp [h1,h2],(Fr.refl No w).alloc _⟩
   have c:¬ (t.end_.size:Int)<=3000:=by omega
   go_enter Tryz.func18,Tryz.ntmps18;go_wp2;go_ret;exact ⟨by rw [a.out];simp [h1,h2],(Fr.refl No w).alloc _⟩
 have b:¬ (t.key.size:Int)<=3000:=by omega
 go_enter Tryz.func18,Tryz.ntmps18;go_wp2;go_ret;exact ⟨by rw [a.out];simp [h1],(Fr.refl No w).alloc _⟩
theorem zew (w:World) (a:ActQ):Calls Tryz.prog 20 #[.agg (actC a).toArray] w fun e w'=>e=.returned (.int .i64 (kindN a.kind))/\Fr No w w':=by
 obtain ⟨b,⟨⟨r,s,⟨f,g,j,k,l,m,n⟩,t,u,v⟩,d,c⟩,⟨x,y,z,A,B,C⟩,i⟩:=a;unfold actC calC rgC wtC;dsimp only;unfold kindN;have o:=Int.tmod_lt_of_pos b (show (0:Int)<8 by decide);have q:=Int.lt_tmod_of_pos b (show (0:Int)<8 by decide);go_enter Tryz.func20,Tryz.ntmps20;go_wp2;go_ret;exact ⟨by rw [Int.tmod_eq_emod_of_nonneg (show 0<=b.tmod 8+8 by omega)];rfl,(Fr.refl No w).alloc _⟩
theorem zvm {w:World} {q:CalQ} (h1:SlR w 10 opC q.1.ops q.2.1) (h2:SlR w 1 strC q.1.keys q.2.2) {b:Nat} {t:TypeId} (hb:w.heap[b]?=some (.cells (calC q).toArray t (0,0))):CalR w (.slice (some ⟨b,0,none⟩) 1 1) [q]:=by
 refine ⟨⟨_,1,rfl,by simp,by decide,fun _=>⟨b,0,rfl,fun i x hx j u hu=>?_⟩⟩,fun i x hx=>?_,fun i x hx=>?_⟩
 · have a:i=0:=by have:=(List.getElem?_eq_some_iff.1 hx).1;simp at this;omega
   subst a;obtain rfl:q=x:=by simpa using hx
   unfold World.cell?;simp only [hb,Nat.zero_mul,Nat.zero_add,Option.isSome_none,Bool.false_eq_true,if_false];simpa using hu
 · have a:i=0:=by have:=(List.getElem?_eq_some_iff.1 hx).1;simp at this;omega
   subst a;obtain rfl:q=x:=by simpa using hx
   exact h1
 have a:i=0:=by have:=(List.getElem?_eq_some_iff.1 hx).1;simp at this;omega
 subst a;obtain rfl:q=x:=by simpa using hx
 exact h2
set_option maxHeartbeats 4000000 in
theorem zee (w:World) (v:Value) (l:List ActQ) (hv:ActR w v l):Calls Tryz.prog 9 #[v] w fun e w'=>e=.returned (.bool (zda l))/\Fr No w w':=by
 obtain ⟨hv,j,d,_,_⟩:=hv;obtain ⟨a,cap,rfl,R,S,J⟩:=hv.shape;have O:=H_ hv;clear hv;have L:=H_ J;clear J;have N:=H_ j;clear j;have M:=H_ d;clear d;by_cases h60:60<l.length
 · have y:(60:Int)<(l.length:Int):=by omega
   have:zda l=false:=(by unfold zda;simp;omega);rw [this];go_enter Tryz.func9,Tryz.ntmps9;go_wp2;go_ret;exact ⟨rfl,Fr.refl _ _⟩
 have y:¬ (60:Int)<(l.length:Int):=by omega
 have I:zda l=l.all fewAct:=(by unfold zda;simp;omega);have C:=H_ I;clear I;go_enter Tryz.func9,Tryz.ntmps9;go_wp2
 go_loopg [3] l.length (fun g s3 wr=>∃ i:Nat,s3=.int .i64 i/\i+g=l.length/\Hid ((l.take i).all fewAct=true)/\Hid (Fr No w wr))
 case atStart=>exact ⟨0,rfl,by simp,H_ (by simp),H_ (Fr.refl _ _)⟩
 case round =>
  obtain ⟨i,rfl,hi,D,k⟩:=hrel
  cases gk with
  | zero =>
    have G:¬ (i:Int)<(l.length:Int):=(by omega);have H:l.take i=l:=List.take_of_length_le (by omega);rw [H] at D;go_wp2;go_ret;exact ⟨by rw [C.out,D.out];rfl,k.out⟩
  | succ g =>
    obtain ⟨gb,go,rfl⟩:=L.out (by omega);obtain ⟨p,f⟩:∃ p,l[i]?=some p:=⟨_,List.getElem?_eq_getElem (by omega)⟩;have c:=O.out.fr0 k.out;have V:=c.cell zam i 1 f rfl;have x2:=c.cell zam i 2 f rfl;have x3:=c.cell zam i 3 f rfl;have x4:=c.cell zam i 4 f rfl;have x5:=c.cell zam i 5 f rfl;have x6:=c.cell zam i 6 f rfl;have x7:=c.cell zam i 7 f rfl;have x8:=c.cell zam i 8 f rfl;have x9:=c.cell zam i 9 f rfl;have X:=c.cell zam i 10 f rfl;have Y:=c.cell zam i 11 f rfl;have Z:=c.cell zam i 12 f rfl;have a0:=c.cell zam i 13 f rfl;have a1:=c.cell zam i 14 f rfl;have a2:=c.cell zam i 15 f rfl;have a3:=c.cell zam i 16 f rfl;have a4:=c.cell zam i 17 f rfl;have a5:=c.cell zam i 18 f rfl;have G:(i:Int)<(l.length:Int):=(by omega)
    have B:=zcl (p:=fewAct) f;have z:=zcx (p:=fewAct) f;have E:=H_ B;have t:=H_ z;have j:=N.out i p f;have d:=M.out i p f;have A:fewAct p=(fewCal p.call&&fewW p.w):=rfl
    have r:∀ W b,W.heap[b]?=some (.cells (calC p.call).toArray 27 (0,0))->Fr No w W->Calls Tryz.prog 38 #[.slice (some ⟨b,0,none⟩) 1 1] W fun e w'=>e=.returned (.bool (fewCal p.call))/\W=w':=fun W b hb hW=>by
     have h:=zko W _ [p.call] (zvm (j.fr0 hW) (d.fr0 hW) hb);have e:zec [p.call]=fewCal p.call:=(by unfold zec;simp);rw [e] at h;exact h
    have s:=fun W=>zjq W p.w;clear f c B z j d;obtain ⟨p0,⟨⟨p1,p2,⟨g1,g2,g3,g4,g5,g6,g7⟩,p3,p4,p5⟩,T,K⟩,⟨t1,t2,t3,t4,t5,t6⟩,id⟩:=p;unfold calC rgC at r;unfold wtV at s;dsimp only at *;generalize fewAct _=F at *;generalize fewCal _=P at *;generalize fewW _=Q at *;have n:=H_ r;have u:=H_ s;have o:=H_ A;have lg:=World.block_lt_of_cell? _ _ V;clear r s A;cases P
    · have m:F=false:=by rw [o.out];rfl
      have x:=H_ m;clear m;go_wp2_with (go_at_call 38;refine (n.out _ _ (zae _ _ _ rfl) (k.out.alloc _)).mono ?_;rintro e w' ⟨rfl,rfl⟩);go_ret;exact ⟨by rw [C.out,t.out x.out];rfl,k.out.alloc _⟩
    cases Q
    · have m:F=false:=by rw [o.out];rfl
      have x:=H_ m;clear m
      go_wp2_with (first
       | (go_at_call 38;refine (n.out _ _ (zae _ _ _ rfl) (k.out.alloc _)).mono ?_;rintro e w1 ⟨rfl,rfl⟩)
       | (go_at_call 18;refine (u.out _).mono ?_;rintro e U ⟨rfl,q⟩))
      go_ret;exact ⟨by rw [C.out,t.out x.out];rfl,(k.out.alloc _).trans0 q⟩
    have m:F=true:=by rw [o.out];rfl
    have x:=H_ m;clear m
    go_wp2_with (first
     | (go_at_call 38;refine (n.out _ _ (zae _ _ _ rfl) (k.out.alloc _)).mono ?_;rintro e w1 ⟨rfl,rfl⟩)
     | (go_at_call 18;refine (u.out _).mono ?_;rintro e U ⟨rfl,q⟩))
    go_roundg g
    case rel=>exact ⟨i+1,by go_num,by omega,H_ (by rw [E.out,D.out,x.out];rfl),H_ ((k.out.alloc _).trans0 q)⟩
    case measure=>omega
theorem SlR.lt {α:Type} {f:α->List Value} {w:World} {sz:Nat} {v:Value} {L:List α} (h:SlR w sz f v L) (hf:∀ x,(f x).length=sz) (hsz:0<sz) (hp:0<L.length):∀ b,v.ownBlock=some b->b<w.heap.size:=by
 intro b e;obtain ⟨a,cap,rfl,k,l,c⟩:=h;obtain ⟨g,o,rfl,d⟩:=c hp;obtain rfl:g=b:=by simpa [Value.ownBlock] using e
 have j:L[0]?=some L[0]:=List.getElem?_eq_getElem hp;have i:0<(f L[0]).length:=by rw [hf];exact hsz
 exact World.block_lt_of_cell? _ _ (d 0 _ j 0 _ (List.getElem?_eq_getElem i))
theorem Good.does_at {k:Nat} {S:St} {D:Doc} (h:Good k S D) (hk:k<=200) {q:CalQ} (hq:fewCal q=true) :
 D.rev<=(doD S D q).rev/\(doD S D q).rev<=D.rev+1/\D.mark<=(doD S D q).mark/\∀ r,(doD S D q).mark<=r->r<=D.rev->(doD S D q).at r=D.at r:=by
 obtain ⟨g,m,i,n,s⟩:=zgd hq;have j:=h.cpl.m0
 have key:∀ E:List Ev,(∀ e∈E,e.kv.mod=D.rev+1)->D.rev<=(D.adds E).rev/\(D.adds E).rev<=D.rev+1/\D.mark<=(D.adds E).mark/\∀ r,(D.adds E).mark<=r->r<=D.rev->(D.adds E).at r=D.at r:=fun E hE=>by
  have d:=Doc.adds_rev D E _ hE;have t:=(Doc.adds_parts D E).1;refine ⟨by rw [d];split <;> omega,by rw [d];split <;> omega,by omega,fun r _ hr=>Doc.adds_at_old D E fun e c=>by have:=hE e c;omega⟩
 have b:D.rev<=D.rev/\D.rev<=D.rev+1/\D.mark<=D.mark/\∀ r,D.mark<=r->r<=D.rev->D.at r=D.at r:=⟨by omega,by omega,by omega,fun _ _ _=>rfl⟩;unfold doD;by_cases h4:kindN q.1.kind=4
 · rw [if_pos h4];exact b
 rw [if_neg h4]
 by_cases h5:kindN q.1.kind=5
 · rw [if_pos h5]
   by_cases hc:zbg S q.1.rev=0
   · rw [if_pos hc]
     obtain ⟨l,f⟩:=zei hc;rw [h.cpl.mark] at f;exact ⟨Int.le_refl _,by show D.rev<=D.rev+1;omega,by show D.mark<=q.1.rev;omega,fun r hr _=>Doc.cut_at h.doc.es (by omega) hr fun e c=>(h.doc.lo e c).2.2⟩
   rw [if_neg hc];exact b
 rw [if_neg h5]
 by_cases h6:kindN q.1.kind=6
 · rw [if_pos h6];exact b
 rw [if_neg h6]
 by_cases h7:kindN q.1.kind=7
 · rw [if_pos h7]
   refine key _ ?_;obtain ⟨a,_⟩:=h.drops hk q.2.2 i q.2.2.length (Nat.le_refl _);have c:dropTo (D.rev+1) S q.2.2 q.2.2.length=q.2.2.foldl (dropR (D.rev+1)) (S,[]):=(by unfold dropTo;rw [List.take_length]);rw [c] at a;exact a.mods
 rw [if_neg h7]
 by_cases ha:applyE S q.2.1=0
 · rw [if_pos ha]
   refine key _ ?_;obtain ⟨⟨a,_⟩,_⟩:=h.runs hk (zbu ha).1 (fun o ho=>by have:=(g o ho).1;omega) q.2.1.length (Nat.le_refl _);rw [List.take_length] at a;exact a.mods
 rw [if_neg ha];exact b
theorem info31l (q:ActQ):(Tryz.prog.info? 31).map (·.size)=some (actC q).length:=by rw [zam];kernel_rfl
theorem info29l (t:Wt):(Tryz.prog.info? 29).map (·.size)=some (wtC t).length:=by kernel_rfl
theorem info27l (q:CalQ):(Tryz.prog.info? 27).map (·.size)=some (calC q).length:=by rw [zcs];kernel_rfl
theorem row31:(Tryz.prog.underlying 31).map TypeDesc.isRow=some true:=by kernel_rfl
theorem row29:(Tryz.prog.underlying 29).map TypeDesc.isRow=some true:=by kernel_rfl
theorem row27:(Tryz.prog.underlying 27).map TypeDesc.isRow=some true:=by kernel_rfl
theorem row_of {P:Program} {t:TypeId} (h:(P.underlying t).map TypeDesc.isRow=some true):∃ d,P.underlying t=some d/\d.isRow=true:=by
 cases hq:P.underlying t with
 | none=>rw [hq] at h;cases h
 | some d=>rw [hq] at h;exact ⟨d,rfl,by simpa using h⟩
theorem zan {P:Program} {ops:Array Oper} {rest:List Oper} {op:Oper} {a:Act} {w:World} {Q:Exit->Act->World->Prop} (hgd:op.guard=none) (ty:TypeId) (x:Operand) (ho:op.op=.load ty x)
 (b o:Nat) (hx:a.eval x=.pointer (some ⟨b,o,none⟩)) (cs:List Value) (hc:w.rangeAt b o cs) (hu:(P.underlying ty).map TypeDesc.isRow=some true) (hi:(P.info? ty).map (·.size)=some cs.length)
 (h:wpList P ops Q rest (a.put op.dst (.agg cs.toArray)) w):wpList P ops Q (op :: rest) a w:=by
 obtain ⟨d,c,e⟩:=row_of hu;exact wpList_load_mid hgd ty x ho b o hx cs d hc c e hi h
theorem zhp {P:Program} {ops:Array Oper} {rest:List Oper} {op:Oper} {a:Act} {w0:World} {Q:Exit->Act->World->Prop} (hgd:op.guard=none) (hd:op.dst=none) (ty:TypeId) (x y:Operand) (ho:op.op=.store ty x y) (c:Array Value) (cs:List Value)
 (hx:a.eval x=.pointer (some ⟨w0.heap.size,0,none⟩)) (hy:a.eval y=.agg cs.toArray) (hi:(P.info? ty).map (·.size)=some cs.length) (hc:c.size=cs.length) (h1:∀ u∈cs,u.oneCell'=true)
 (h:wpList P ops Q rest a (w0.alloc (.cells cs.toArray ty))):wpList P ops Q (op :: rest) a (w0.alloc (.cells c ty)):=by
 have b:a.put op.dst undef=a:=by rw [hd];rfl
 rw [<-b] at h;refine wpList_plain hgd fun _ hK=>?_;unfold Oper.wp execOp;simp only [ho,hx,hy,run_storeAt_new (P:=P) w0 ty c cs.toArray (by simpa using hi) (by simpa using hc) (by rw [Array.all_eq_true_iff_forall_mem];intro u d;exact h1 u (by simpa using d)),Sem.run_bind,Sem.run_pure,Result.andThen_ok];exact hK _ _ h
theorem zbc {w:World} {b:Nat} {cs:List Value} {t:TypeId} (h:w.heap[b]?=some (.cells cs.toArray t (0,0))) (o n:Nat):w.rangeAt b o ((cs.drop o).take n):=by
 intro j v a
 have c:cs[o+j]?=some v:=by
  rw [List.getElem?_take] at a
  split at a
  · rwa [List.getElem?_drop] at a
  cases a
 unfold World.cell?;simp only [h,Option.isSome_none,Bool.false_eq_true,if_false];simpa using c
theorem SlR.rangeAt {α:Type} {f:α->List Value} {w:World} {sz g o cap:Nat} {L:List α} (hf:∀ x,(f x).length=sz) (h:SlR w sz f (.slice (some ⟨g,o,none⟩) L.length cap) L) (i:Nat) {x:α} (hx:L[i]?=some x):w.rangeAt g (o+i * sz) (f x):=by
 intro j v a
 cases j with
 | zero=>exact h.cell0 hf i hx a
 | succ j=>exact h.cell hf i (j+1) hx a
structure ActAt (W:World) (b:Nat) (q:ActQ):Prop where
 all:W.rangeAt b 0 (actC q)
 call:W.rangeAt b 1 (calC q.call)
 w:W.rangeAt b 13 (wtC q.w)
 kind:W.cell? ⟨b,0,none⟩=some (.int .i64 q.kind)
 id:W.cell? ⟨b,19,none⟩=some (.int .i64 q.id)
theorem ActAt.of {W:World} {b:Nat} {q:ActQ} {t:TypeId} (h:W.heap[b]?=some (.cells (actC q).toArray t (0,0))):ActAt W b q :=
 ⟨zbc h 0 20,zbc h 1 12,zbc h 13 6,cellAt h 0 rfl,cellAt h 19 rfl⟩
theorem Both.mono {TA:zai} {w:World} {h st k n k' n':Nat} {S:St} {D:Doc} {H:Hb} {B:Nat->Prop} (a:Both TA w h st k n S D H B) (h1:k<=k') (h2:n<=n'):Both TA w h st k' n' S D H B:=by
 obtain ⟨p,r⟩:=a;exact ⟨⟨p.good.mono h1,p.q,p.fed,Nat.le_trans p.len h2,by have:=p.last;omega⟩,r⟩
def ActTo (TA:zai) (w W w':World) (h s k:Nat) (S:St) (D:Doc) (H:Hb) (B B':Nat->Prop):Prop :=
 Both TA w' h s k k S D H B'/\Fr B W w'/\(∀ b,B' b->B b\/W.heap.size<=b)/\(∀ b,B' b->w.heap.size<=b)/\Fr No w w'
structure ActF (TA:zai) (w wr:World) (h s k:Nat) (S:St) (D:Doc) (H:Hb) (B:Nat->Prop) (q:ActQ):Prop where
 os:∃ a c,q.call.1.ops=.slice a q.call.2.1.length c
 ks:∃ a c,q.call.1.keys=.slice a q.call.2.2.length c
 feed:∀ W,Fr No wr W->Calls Tryz.prog 13 #[.pointer (some ⟨h,0,none⟩)] W fun e w'=>e=.returned (.tuple #[])/\∃ B',ActTo TA w W w' h s (k+1) S D (feedH D H) B B'
 opn:∀ W,Fr No wr W->Calls Tryz.prog 12 #[.pointer (some ⟨h,0,none⟩),.agg (wtC q.w).toArray] W fun e w'=>e=.returned (.tuple #[.int .i64 (if openE q.w=0 then H.last+1 else 0),.int .i64 (openE q.w)])/\∃ B',ActTo TA w W w' h s (k+1) S D (if openE q.w=0 then openH H q.w else H) B B'
 take:∀ W j,(Lit.int .i64 j).wf=true->Fr No wr W->Calls Tryz.prog 14 #[.pointer (some ⟨h,0,none⟩),.int .i64 j] W fun e w'=>∃ v,e=.returned (.tuple #[batV v (takeB D H j),.int .i64 (takeE H j)])/\SlF w' 72 13 evC v (takeB D H j).evs/\∃ B',ActTo TA w W w' h s (k+1) S D (takeH D H j) B B'/\(∀ b,v.ownBlock=some b->w.heap.size<=b/\(B b\/W.heap.size<=b)/\¬ B' b)
 close:∀ W j,(Lit.int .i64 j).wf=true->Fr No wr W->Calls Tryz.prog 15 #[.pointer (some ⟨h,0,none⟩),.int .i64 j] W fun e w'=>e=.returned (.int .i64 (takeE H j))/\∃ B',ActTo TA w W w' h s (k+1) S D (closeH H j) B B'
 does:∀ W,Fr No wr W->Calls Tryz.prog 27 #[.pointer (some ⟨s,0,none⟩),.agg (calC q.call).toArray] W fun e w'=>e=.returned (.int .i64 (doE S q.call))/\∃ B',ActTo TA w W w' h s (k+1) (doT S q.call) (doD S D q.call) H B B'
theorem actF {TA:zai} (hT:TreeOk TA 1000000) (hTD:TreeDl TA) {w wr:World} {h s k:Nat} {S:St} {D:Doc} {H:Hb} {B:Nat->Prop} (a:Both TA wr h s k k S D H B) (hk:k<=200) {q:ActQ} (hq1:fewCal q.call=true) (hq2:q.w.key.size<=3000) (hfr:(Lit.int .i64 q.w.frm).wf=true)
 (ho:SlR w 10 opC q.call.1.ops q.call.2.1) (hks:SlR w 1 strC q.call.1.keys q.call.2.2) (hN:∀ b,B b->w.heap.size<=b) (hF:Fr No w wr):ActF TA w wr h s k S D H B q:=by
 have g:∀ {W w':World} {o:St} {m:Doc} {n:Hb} {d:Nat->Prop} {y z:Nat},Fr No wr W->Both TA w' h s y z o m n d->y<=k+1->z<=k+1->Fr B W w'->(∀ b,d b->B b\/W.heap.size<=b)->ActTo TA w W w' h s (k+1) o m n B d:=by
  intro W w' o m n d y z c b1 E F b2 f;have t:=c.size;have r:=hF.size;exact ⟨b1.mono E F,b2,f,fun b hb=>(f b hb).elim (hN b) fun x=>by omega,(hF.trans0 c).trans b2 fun b hb x=>by have:=hN b x;omega⟩
 obtain ⟨K,L,u,_⟩:=ho.shape;obtain ⟨I,J,l,_⟩:=hks.shape;refine ⟨⟨K,L,u⟩,⟨I,J,l⟩,fun W c=>?_,fun W c=>?_,fun W j hj c=>?_,fun W j hj c=>?_,fun W c=>?_⟩
 · refine ((a.fr0 hT c).feed hT hk (by omega)).mono ?_
   rintro e w' ⟨rfl,d,b1,b2,f⟩;exact ⟨rfl,d,g c b1 (by omega) (by omega) b2 f⟩
 · refine ((a.fr0 hT c).«open» hT hk (by omega) q.w hq2 hfr).mono ?_
   rintro e w' ⟨rfl,d,b1,b2,f⟩;exact ⟨rfl,d,g c b1 (by omega) (by omega) b2 f⟩
 · refine ((a.fr0 hT c).take hT hk j hj).mono ?_
   rintro e w' ⟨v,rfl,G,d,b1,b2,f,A,C⟩;have t:=c.size;have r:=hF.size;exact ⟨v,rfl,G,d,g c b1 (by omega) (by omega) b2 f,fun b hb=>⟨(A b hb).elim (hN b) fun x=>by omega,A b hb,C b hb⟩⟩
 · refine ((a.fr0 hT c).close hT j hj).mono ?_
   rintro e w' ⟨rfl,d,b1,b2,f⟩;exact ⟨rfl,d,g c b1 (by omega) (by omega) b2 fun b hb=>.inl (f b hb)⟩
 have i:=(Good.does_at a.p.good hk hq1).1
 refine ((a.fr0 hT c).does hT hTD hk q.call hq1 ((ho.fr0 hF).fr0 c) ((hks.fr0 hF).fr0 c) (fun hp b hb hx=>by have:=ho.lt zaf (by decide) hp b hb;have:=hN b hx;omega) (fun hp b hb hx=>by have:=hks.lt zdt (by decide) hp b hb;have:=hN b hx;omega) i).mono ?_;rintro e w' ⟨rfl,d,b1,b2,f⟩;exact ⟨rfl,d,g c b1 (by omega) (by omega) b2 f⟩
def btw (a c:Int) (l:List Ev):List Ev:=l.filter fun e=>decide (a<e.kv.mod)&&decide (e.kv.mod<=c)
def upto (c:Int) (l:List Ev):List Ev:=l.filter fun e=>decide (e.kv.mod<=c)
def ModUp (l:List Ev):Prop:=l.Pairwise fun a b=>a.kv.mod<=b.kv.mod
theorem zkq {a c:Int} {l:List Ev} (h:∀ e∈l,c<e.kv.mod):btw a c l = []:=List.filter_eq_nil_iff.2 fun e he=>by
 have:=h e he;simp;omega
theorem zgk {a b c:Int} (h1:a<=b) (h2:b<=c):∀ {l:List Ev},ModUp l->btw a c l=btw a b l++btw b c l
 | [],_=>rfl
 | e :: l,h=>by
   obtain ⟨h3,h4⟩:=List.pairwise_cons.1 h;have ih:=zgk h1 h2 h4;by_cases x1:e.kv.mod<=b
   · have n1:(decide (b<e.kv.mod)&&decide (e.kv.mod<=c))=false:=by simp;omega
     have g:(decide (a<e.kv.mod)&&decide (e.kv.mod<=c))=(decide (a<e.kv.mod)&&decide (e.kv.mod<=b)):=by
      congr 1
      exact decide_eq_decide.2 ⟨fun _=>x1,fun _=>by omega⟩
     unfold btw at *;rw [List.filter_cons,List.filter_cons,List.filter_cons,n1,g,ih];simp only [Bool.false_eq_true,if_false]
     split
     · rfl
     rfl
   have i:btw a b (e :: l) = []:=zkq fun x d=>by
    rcases List.mem_cons.1 d with rfl | d
    · omega
    have:=h3 x d;omega
   have f:btw a b l = []:=zkq fun x d=>by have:=h3 x d;omega
   rw [i,List.nil_append];rw [f,List.nil_append] at ih;unfold btw at *;rw [List.filter_cons,List.filter_cons,ih]
   have g:(decide (a<e.kv.mod)&&decide (e.kv.mod<=c))=(decide (b<e.kv.mod)&&decide (e.kv.mod<=c)):=by
    congr 1
    exact decide_eq_decide.2 ⟨fun _=>by omega,fun _=>by omega⟩
   rw [g]
theorem zcm {b c:Int} (h:b<=c) {l:List Ev} (hl:ModUp l):upto c l=upto b l++btw b c l:=by
 induction l with
 | nil=>rfl
 | cons e l d =>
   obtain ⟨g,i⟩:=List.pairwise_cons.1 hl;have d:=d i;by_cases x1:e.kv.mod<=b
   · unfold upto btw at *
     rw [List.filter_cons,List.filter_cons,List.filter_cons,if_pos (by simp;omega),if_pos (by simpa using x1),if_neg (by simp;omega),d]
     rfl
   have j:upto b (e :: l) = []:=List.filter_eq_nil_iff.2 fun x a=>by
    rcases List.mem_cons.1 a with rfl | a
    · simpa using x1
    have:=g x a;simp;omega
   have f:upto b l = []:=List.filter_eq_nil_iff.2 fun x a=>by have:=g x a;simp;omega
   rw [j,List.nil_append];rw [f,List.nil_append] at d;unfold upto btw at *;rw [List.filter_cons,List.filter_cons,d];have k:decide (b<e.kv.mod)=true:=(by simp;omega);rw [k,Bool.true_and]
theorem zws (r:Int) (l:List Ev):btw (r-1) r l=l.filter fun e=>decide (e.kv.mod=r):=by
 unfold btw;refine List.filter_congr fun e _=>?_;rw [<-Bool.decide_and];exact decide_eq_decide.2 ⟨fun h=>by omega,fun h=>by omega⟩
theorem zqr (a c:Int) (l m:List Ev):btw a c (l++m)=btw a c l++btw a c m:=List.filter_append ..
theorem zdr (c:Int) (l m:List Ev):upto c (l++m)=upto c l++upto c m:=List.filter_append ..
theorem zgt {a c:Int} {l:List Ev} {e:Ev}:e∈btw a c l↔e∈l/\a<e.kv.mod/\e.kv.mod<=c:=by
 unfold btw;rw [List.mem_filter];simp
theorem zmd (t:Wt) (e:Ev):(handE t e).kv=e.kv:=by unfold handE;split <;> rfl
theorem zie {t:Wt} {l:List Ev} {e:Ev} (h:e∈wantsW t l):∃ x∈l,e.kv=x.kv:=by
 obtain ⟨x,a,rfl⟩:=List.mem_map.1 h;exact ⟨x,(List.mem_filter.1 a).1,zmd t x⟩
structure Told (D:Doc) (all:List Ev):Prop where
 he:∀ r,1<=r->D.mark<=r->r<=D.rev->(D.events.filter fun e=>decide (e.kv.mod=r))=all.filter fun e=>decide (e.kv.mod=r)
 lo:∀ e∈all,e.kv.mod<=D.rev
 up:ModUp all
theorem Told.at {D:Doc} {all:List Ev} (h:Told D all) {r:Int} (he:zax D r r=0):evsAt D r=btw (r-1) r all:=by
 unfold evsAt;rw [if_pos he,zws];unfold zax at he
 split at he
 · cases he
 split at he
 · cases he
 split at he
 · cases he
 exact h.he r (by omega) (by omega) (by omega)
theorem zfr {D:Doc} {r:Int} (h1:1<=r) (h2:D.mark<=r) (h3:r<=D.rev):zax D r r=0:=by
 unfold zax;rw [if_neg (by omega),if_neg (by omega),if_neg (by omega)]
structure SnInv (t:Wt) (b0:Int) (all:List Ev) (fed:Int) (s:Sm) (rev:Int) (got:List Ev):Prop where
 wt:∀ e:Ev,b0<e.kv.mod->wantB s.w e=wantB t e
 pv:s.w.prev=t.prev
 lb:b0<=rev
 lb0:0<=b0
 p1:rev+1<=s.place
 p2:s.place<=fed+1
 got:got=wantsW t (upto rev all)
 low:∀ e:Ev,e.kv.mod<=b0->wantB t e=false
 buf:s.buf=wantsW t (btw rev (s.place-1) all)
 len:s.buf.length<=64
theorem SnInv.wants {t:Wt} {b0:Int} {all:List Ev} {fed:Int} {s:Sm} {rev:Int} {got:List Ev} (h:SnInv t b0 all fed s rev got) {a c:Int} (ha:b0<=a) (l:List Ev):wantsW s.w (btw a c l)=wantsW t (btw a c l):=by
 unfold wantsW;have b:(btw a c l).filter (wantB s.w)=(btw a c l).filter (wantB t):=List.filter_congr fun e he=>h.wt e (by have:=(zgt.1 he).2.1;omega);rw [b];refine List.map_congr_left fun e _=>?_;unfold handE;rw [h.pv]
theorem SnInv.look {t:Wt} {b0:Int} {all:List Ev} {fed:Int} {s:Sm} {rev:Int} {got:List Ev} (h:SnInv t b0 all fed s rev got) {D:Doc} (ht:Told D all):SnInv t b0 all (fed+1) (lookS D (fed+1) s) rev got:=by
 unfold lookS;have g:=h.lb;have d:=h.p1;have e:=h.p2
 split
 · rename_i hc
   obtain ⟨a,b,c⟩:=hc
   have f:wantsW s.w (evsAt D (fed+1))=wantsW t (btw (s.place-1) (s.place+1-1) all):=by
    rw [ht.at b,<-a,h.wants (by omega)]
    congr 2
    omega
   refine { h with p1:=by dsimp only;omega,p2:=by dsimp only;omega,buf:=?_,len:=by dsimp only;rw [List.length_append];exact c };dsimp only;rw [f,h.buf,<-zay,<-zgk (by omega) (by omega) ht.up]
 exact { h with p2:=by omega }
theorem SnInv.more {t:Wt} {b0:Int} {all:List Ev} {fed:Int} {s:Sm} {rev:Int} {got:List Ev} (h:SnInv t b0 all fed s rev got) {E:List Ev} (hE:∀ e∈E,fed<e.kv.mod):SnInv t b0 (all++E) fed s rev got:=by
 have c:=h.p1;have d:=h.p2;have a:upto rev E = []:=List.filter_eq_nil_iff.2 fun e he=>by have:=hE e he;simp;omega
 have b:btw rev (s.place-1) E = []:=zkq fun e he=>by have:=hE e he;omega
 exact { h with got:=by rw [zdr,a,List.append_nil];exact h.got,buf:=by rw [zqr,b,List.append_nil];exact h.buf }
theorem zfs {D:Doc} {all:List Ev} (ht:Told D all) {fed:Int} (hf:fed<=D.rev) (t:Wt):∀ (n:Nat) (first:Bool) (p:Int) (out:List Ev),1<=p->D.mark<=p->p<=fed+1->fed-p+1<=n →
 p<=(catchN D fed t n first p out).1/\(catchN D fed t n first p out).1<=fed+1/\(catchN D fed t n first p out).2=out++wantsW t (btw (p-1) ((catchN D fed t n first p out).1-1) all) ∧
  (first=false->out.length<=64->(catchN D fed t n first p out).2.length<=64)/\(first=false->64<out.length->(catchN D fed t n first p out).2=out)
 | 0,first,p,out,h1,h2,h3,h4=>by
   unfold catchN;have:btw (p-1) (p-1) all = []:=List.filter_eq_nil_iff.2 fun e _=>by simp
   exact ⟨Int.le_refl _,h3,by dsimp only;rw [this];simp [wantsW],fun _ h=>h,fun _ _=>rfl⟩
 | n+1,first,p,out,h1,h2,h3,h4=>by
   have hnil:btw (p-1) (p-1) all = []:=List.filter_eq_nil_iff.2 fun e _=>by simp
   unfold catchN;by_cases hp:p<=fed
   · rw [if_pos hp]
     have he:=zfr h1 h2 (show p<=D.rev by omega);by_cases hc:zax D p p≠0\/(first=false/\64<out.length+(wantsW t (evsAt D p)).length)
     · rw [if_pos hc]
       exact ⟨Int.le_refl _,h3,by dsimp only;rw [hnil];simp [wantsW],fun _ h=>h,fun _ _=>rfl⟩
     rw [if_neg hc]
     have hc2:¬ (first=false/\64<out.length+(wantsW t (evsAt D p)).length):=fun h=>hc (.inr h);obtain ⟨a1,a2,a3,a4,a5⟩:=zfs ht hf t n false (p+1) (out++wantsW t (evsAt D p)) (by omega) (by omega) (by omega) (by omega);generalize hq:catchN D fed t n false (p+1) (out++wantsW t (evsAt D p))=q at *;refine ⟨by omega,a2,?_,fun h h6=>a4 rfl ?_,fun h h6=>?_⟩
     · rw [a3,ht.at he,List.append_assoc,<-zay]
       rw [show p+1-1=p by omega,<-zgk (by omega) (by omega) ht.up]
     · rw [List.length_append]
       rcases (show out.length+(wantsW t (evsAt D p)).length<=64\/64<out.length+(wantsW t (evsAt D p)).length by omega).symm with h7 | h7
       · exact absurd ⟨h,h7⟩ hc2
       exact h7
     exact absurd ⟨h,by omega⟩ hc2
   rw [if_neg hp]
   exact ⟨Int.le_refl _,h3,by dsimp only;rw [hnil];simp [wantsW],fun _ h=>h,fun _ _=>rfl⟩
theorem zqq {D:Doc} {all:List Ev} (ht:Told D all) {fed:Int} (hf:fed<=D.rev) (t:Wt) {p:Int} (h1:1<=p) (h2:D.mark<=p) (_h3:p<=fed+1) (n:Nat) (h4:fed-p+1<=n) :
 (catchN D fed t n true p []).2.length<=64\/∀ e∈(catchN D fed t n true p []).2,e.kv.mod=p:=by
 cases n with
 | zero=>exact .inl (by simp [catchN])
 | succ n =>
   unfold catchN;by_cases hp:p<=fed
   · have c:=zfr h1 h2 (show p<=D.rev by omega)
     rw [if_pos hp,if_neg (by simp [c])];obtain ⟨j,k,l,f,g⟩:=zfs ht hf t n false (p+1) ([]++wantsW t (evsAt D p)) (by omega) (by omega) (by omega) (by omega);rcases (show ([]++wantsW t (evsAt D p)).length<=64\/64<([]++wantsW t (evsAt D p)).length by omega).symm with b | b
     · right
       rw [g rfl b];intro e a;rw [List.nil_append] at a;obtain ⟨x,d,i⟩:=zie a;rw [ht.at c] at d;have:=(zgt.1 d).2;rw [i];omega
     exact .inl (f rfl b)
   rw [if_neg hp]
   exact .inl (by simp)
theorem SnInv.take {t:Wt} {b0:Int} {all:List Ev} {s:Sm} {rev:Int} {got:List Ev} {H:Hb} (h:SnInv t b0 all H.fed s rev got) {D:Doc} (ht:Told D all) (hf:H.fed<=D.rev) {id:Int} (hg:getH H.L id=some s) :
 ((takeB D H id).cancel=true/\(takeB D H id).evs = []/\(takeB D H id).rev=D.mark/\rev+1<D.mark) ∨
   ((takeB D H id).cancel=false/\rev<=(takeB D H id).rev/\(takeB D H id).rev<=H.fed/\(∀ e∈(takeB D H id).evs,rev<e.kv.mod/\e.kv.mod<=(takeB D H id).rev) ∧
     ((takeB D H id).evs.length<=64\/∃ m,∀ e∈(takeB D H id).evs,e.kv.mod=m)/\∃ s',getH (takeH D H id).L id=some s'/\SnInv t b0 all H.fed s' (takeB D H id).rev (got++(takeB D H id).evs)):=by
 have C:=h.lb;have y:=h.lb0;have z:=h.p1;have A:=h.p2;unfold takeB takeH;rw [hg];dsimp only;by_cases c1:0<s.buf.length
 · rw [if_pos c1,if_pos c1]
   refine .inr ⟨rfl,by dsimp only;omega,by dsimp only;omega,fun e he=>?_,.inl h.len,⟨s.w,[],s.place⟩,?_,?_⟩
   · dsimp only at he ⊢
     rw [h.buf] at he;obtain ⟨x,n,l⟩:=zie he;rw [l];exact (zgt.1 n).2
   · show getH (setH H.L id _) id=_
     rw [zeb hg,if_pos rfl]
   refine { h with lb:=by dsimp only;omega,p1:=by dsimp only;omega,got:=?_,buf:=?_,len:=by simp }
   · dsimp only
     rw [h.got,h.buf,<-zay,<-zcm (by omega) ht.up]
   dsimp only
   have:btw (s.place-1) (s.place-1) all = []:=List.filter_eq_nil_iff.2 fun e _=>by simp
   rw [this]
   rfl
 rw [if_neg c1,if_neg c1]
 have f:s.buf = []:=List.eq_nil_of_length_eq_zero (by omega);by_cases c2:s.place<=H.fed/\s.place<D.mark
 · rw [if_pos c2,if_pos c2]
   exact .inl ⟨rfl,rfl,rfl,by omega⟩
 rw [if_neg c2,if_neg c2]
 unfold catchH;by_cases c3:s.place<=H.fed
 · obtain ⟨u,v,i,_,_⟩:=zfs ht hf s.w (H.fed-s.place+1).toNat true s.place [] (by omega) (by omega) (by omega) (by omega)
   have r:=zqq ht hf s.w (p:=s.place) (by omega) (by omega) (by omega) (H.fed-s.place+1).toNat (by omega);generalize catchN D H.fed s.w (H.fed-s.place+1).toNat true s.place []=q at *;obtain ⟨g,o⟩:=q;dsimp only at u v i r ⊢
   rw [List.nil_append,h.wants (by omega)] at i;have k:wantsW t (btw rev (s.place-1) all) = []:=(by rw [<-h.buf];exact f)
   have d:o=wantsW t (btw rev (g-1) all):=by
    rw [zgk (a:=rev) (b:=s.place-1) (c:=g-1) (by omega) (by omega) ht.up,zay,k,List.nil_append];exact i
   refine .inr ⟨rfl,by omega,by omega,fun e he=>?_,?_,⟨s.w,[],g⟩,?_,?_⟩
   · rw [d] at he
     obtain ⟨x,n,l⟩:=zie he;rw [l];exact (zgt.1 n).2
   · rcases r with j | j
     · exact .inl j
     exact .inr ⟨_,j⟩
   · show getH (setH H.L id _) id=_
     rw [zeb hg,if_pos rfl]
   refine { h with lb:=by omega,p1:=by dsimp only;omega,p2:=by dsimp only;omega,got:=?_,buf:=?_,len:=by simp }
   · rw [h.got,d,<-zay,<-zcm (by omega) ht.up]
   dsimp only
   have:btw (g-1) (g-1) all = []:=List.filter_eq_nil_iff.2 fun e _=>by simp
   rw [this]
   rfl
 have B:(H.fed-s.place+1).toNat=0:=by omega
 rw [B];unfold catchN;dsimp only;have k:wantsW t (btw rev (s.place-1) all) = []:=(by rw [<-h.buf];exact f);refine .inr ⟨rfl,by omega,by omega,fun e he=>(by simp at he),.inl (by simp),⟨s.w,[],s.place⟩,?_,?_⟩
 · show getH (setH H.L id _) id=_
   rw [zeb hg,if_pos rfl]
 refine { h with lb:=by omega,p1:=by dsimp only;omega,got:=?_,buf:=?_,len:=by simp }
 · rw [List.append_nil,h.got,zcm (b:=rev) (c:=s.place-1) (by omega) ht.up,zay,k,List.append_nil]
 dsimp only
 have:btw (s.place-1) (s.place-1) all = []:=List.filter_eq_nil_iff.2 fun e _=>by simp
 rw [this]
 rfl
end Go.Proofs.YtdgkdfmfoonbpaaGreat