/- The statement ImageTwins's function returns true, whatever its arguments are. -/
import Derived.Test.YthljnnjpmdgkoaaGreatI37
import Derived.Test.YthljnnjpmdgkoaaGreatI38
namespace Go.Proofs.YthljnnjpmdgkoaaGreat
open Go Go.Proofs Go.RowKit
set_option maxRecDepth 100000
set_option maxHeartbeats 16000000 in
theorem zku {TA:zao} (hT:TreeOk TA 1000000) (hTD:TreeDl TA) (w:World) (v:Value) (l:List CalQ) (g:Rg) (hv:CalR w v l) (hlq:∀ q∈l,LeaQ q) :
 Calls Tryz.prog 13 #[v,rgV g] w fun e w'=>e=.returned (.bool true)/\Fr No w w':=by
 have k:=fun W (h:Fr No w W)=>zcl W v l ⟨hv.sl.fr0 h,fun i q hq=>(hv.ops i q hq).fr0 h,fun i q hq=>(hv.keys i q hq).fr0 h⟩;have d:=fun (f:zba l=true) W (h:Fr No w W)=>zdi hT hTD W v l ⟨hv.sl.fr0 h,fun i q hq=>(hv.ops i q hq).fr0 h,fun i q hq=>(hv.keys i q hq).fr0 h⟩ f;obtain ⟨va,aA,ai,_,_,_⟩:=hv.sl.shape;clear hv;subst ai;have a:∀ g:Rg,Fr No w (w.alloc (Obj.cells #[.string g.key,.string g.end_,.int .i64 g.rev,.int .i64 g.limit,.bool g.keys,.bool g.count,.bool g.desc] 35)):=fun g=>(Fr.refl No w).alloc _
 have p:∀ g:Rg,(w.alloc (Obj.cells #[.string g.key,.string g.end_,.int .i64 g.rev,.int .i64 g.limit,.bool g.keys,.bool g.count,.bool g.desc] 35)).heap[w.heap.size]?=some (.cells #[.string g.key,.string g.end_,.int .i64 g.rev,.int .i64 g.limit,.bool g.keys,.bool g.count,.bool g.desc] 35 (0,0)):=fun g=>zad _ _ _ rfl;have a:=a g;have p:=p g;by_cases hfew:zba l=true/\g.key.size<=3000/\g.end_.size<=3000
 · obtain ⟨f,L,m⟩:=hfew
   have a6:=(zar f).1;have E:=zbe f l.length (Nat.le_refl _);have hI:=zdu f hlq;rw [f] at k;have d:=d f;generalize donesT l l.length=SD at *;obtain ⟨S,D⟩:=SD;dsimp only at E d hI;have H:=fun W s F hS=>zbl hT E (by omega) (Nat.le_trans hI.len (by decide)) (Nat.le_of_lt hI.n64.len) W s F hS;have a8:=fun W s F hS=>zfr W (some ⟨s,0,none⟩) (docB D) (Nat.le_trans hI.len (by decide)) (H W s F hS);have R1:=fun W s F hS=>ziw (w:=W) (s:=s) (F:=F) hT E (by omega) hS g L;have E1:=fun W s F hS=>zix hT W s S F hS (by have:=E.ok.ev;omega) (fun h1=>E.events_pos (by rw [<-E.rev];exact h1)) g.rev g.limit;have aC:¬ (3000:Int)<(g.key.size:Int):=(by omega);have aD:¬ (3000:Int)<(g.end_.size:Int):=(by omega);generalize (⟨(docB D).toArray⟩:ByteArray)=B at *;generalize sumL (docB D)=sm at *
   generalize rangeE S g=e0 at *;generalize (if e0=0 then ((allL S g S.rev).length:Int) else 0)=n0 at *;generalize (decide (e0=0)&&moreB S g S.rev)=b0 at *;generalize zga S g.rev g.limit=e1 at *;unfold rgV at *;obtain ⟨U,V,X,Y,Z,g6,g7⟩:=g;dsimp only at *;have c:=H_ k;have O:=H_ d;have ae:=H_ R1;have ab:=H_ E1;have A:=H_ H;have Q:=H_ a8;clear k d R1 E1 E hI L m f a6 H a8 hlq;go_enter Tryz.func13,Tryz.ntmps13
   go_upto_region 4 with (first
    | (go_at_call 15;(with_reducible refine (c.out _ a).mono ?_);rintro e w1 ⟨rfl,rfl⟩)
    | (go_at_call 40;(with_reducible refine (O.out _ a).mono ?_);rintro e w2 ⟨s,rfl,F,m,b,ag⟩))
   have y:=a.trans0 b;have j:=b.heap p id;generalize w.alloc (Obj.cells #[.string U,.string V,.int .i64 X,.int .i64 Y,.bool Z,.bool g6,.bool g7] 35)=w0 at *;clear a
   have N:Hid (∀ W,Fr No w2 W->W.cell? ⟨w.heap.size,0,none⟩=some (.string U)/\W.cell? ⟨w.heap.size,1,none⟩=some (.string V)/\W.cell? ⟨w.heap.size,2,none⟩=some (.int .i64 X)/\W.cell? ⟨w.heap.size,3,none⟩=some (.int .i64 Y)/\W.cell? ⟨w.heap.size,4,none⟩=some (.bool Z)/\W.cell? ⟨w.heap.size,5,none⟩=some (.bool g6)/\W.cell? ⟨w.heap.size,6,none⟩=some (.bool g7)):=H_ fun W hW=>by
    have G:=hW.heap j id;exact ⟨cellAt G 0 rfl,cellAt G 1 rfl,cellAt G 2 rfl,cellAt G 3 rfl,cellAt G 4 rfl,cellAt G 5 rfl,cellAt G 6 rfl⟩
   have aj:w.heap.size<w2.heap.size:=zab j;have n:=H_ m;have P:=H_ y;clear m b ag y j p
   go_upto_region 6 with (first
    | (go_at_call 40;(with_reducible refine (O.out _ P.out).mono ?_);rintro e w3 ⟨t,rfl,F3,a7,I,ah⟩)
    | (go_at_call 42;(with_reducible refine (A.out w3 s F (n.out.fr0 hT I)).mono ?_);rintro e w4 ⟨rfl,J⟩))
   have o:=I.trans0 J;have af:=H_ (a7.fr0 hT J);obtain ⟨x0,x1,x2,x3,x4,x5,x6⟩:=N.out w4 o;have ak:w.heap.size<w4.heap.size:=(by have:=o.size;omega);have M:=H_ o;clear a7 I ah J o aj;go_upto_region 7 with (go_at_call 46;(with_reducible refine (ae.out w4 s F (n.out.fr0 hT M.out)).mono ?_);rintro e w5 ⟨rv,rfl,_,r,_⟩);have C:=M.out.trans0 r;clear x0 x1 x2 x3 x4 x5 x6;obtain ⟨x0,x1,x2,x3,x4,x5,x6⟩:=N.out w5 C;have al:w.heap.size<w5.heap.size:=(by have:=r.size;omega);have z:=H_ C;have aa:=H_ r;clear r C ak;go_upto_region 8 with (go_at_call 47;(with_reducible refine (ab.out w5 s F (n.out.fr0 hT z.out)).mono ?_);rintro e w6 ⟨aE,rfl,_,u,_⟩);have R:=H_ (n.out.fr0 hT (z.out.trans0 u));have T:=H_ (af.out.fr0 hT (aa.out.trans0 u))
   have ad:=H_ (P.out.trans0 (z.out.trans0 u));clear u x0 x1 x2 x3 x4 x5 x6 al
   go_wp2_with (first
    | (go_at_call 42;(with_reducible refine (A.out w6 s F R.out).mono ?_);rintro e w7 ⟨rfl,x⟩)
    | (go_at_call 42;(with_reducible refine (A.out w7 t F3 (T.out.fr0 hT x)).mono ?_);rintro e w8 ⟨rfl,K⟩)
    | (go_at_call 43;(with_reducible refine (Q.out w8 s F ((R.out.fr0 hT x).fr0 hT K)).mono ?_);rintro e w9 ⟨rfl,a5⟩)
    | (go_at_call 43;(with_reducible refine (Q.out w9 t F3 (((T.out.fr0 hT x).fr0 hT K).fr0 hT a5)).mono ?_);rintro e aF ⟨rfl,a3⟩)
    | (go_at_call 39;refine (zax hT _).mono ?_;rintro e aG ⟨rfl,a4⟩))
   go_ret;exact ⟨rfl,((((ad.out.trans0 x).trans0 K).trans0 a5).trans0 a3).trans0 a4⟩
 have c:=H_ k
 unfold rgV;clear d hlq k;by_cases f:zba l=true
 · rw [f] at c
   by_cases L:(3000:Int)<(g.key.size:Int)
   · obtain ⟨U,V,X,Y,Z,g6,g7⟩:=g
     dsimp only at *;go_enter Tryz.func13,Tryz.ntmps13
     go_wp2_with (first
      | (go_at_call 15;(with_reducible refine (c.out _ a).mono ?_);rintro e w1 ⟨rfl,rfl⟩)
      | (go_at_call 39;refine (zax hT _).mono ?_;rintro e w2 ⟨rfl,b⟩))
     go_ret;exact ⟨rfl,a.trans0 b⟩
   have m:(3000:Int)<(g.end_.size:Int):=by
    rcases Nat.lt_or_ge 3000 g.end_.size with h | h
    · omega
    exact absurd ⟨f,by omega,h⟩ hfew
   obtain ⟨U,V,X,Y,Z,g6,g7⟩:=g;dsimp only at *;go_enter Tryz.func13,Tryz.ntmps13
   go_wp2_with (first
    | (go_at_call 15;(with_reducible refine (c.out _ a).mono ?_);rintro e w1 ⟨rfl,rfl⟩)
    | (go_at_call 39;refine (zax hT _).mono ?_;rintro e w2 ⟨rfl,b⟩))
   go_ret;exact ⟨rfl,a.trans0 b⟩
 rw [Bool.not_eq_true] at f
 rw [f] at c;obtain ⟨U,V,X,Y,Z,g6,g7⟩:=g;dsimp only at *;go_enter Tryz.func13,Tryz.ntmps13
 go_wp2_with (first
  | (go_at_call 15;(with_reducible refine (c.out _ a).mono ?_);rintro e w1 ⟨rfl,rfl⟩)
  | (go_at_call 39;refine (zax hT _).mono ?_;rintro e w2 ⟨rfl,b⟩))
 go_ret;exact ⟨rfl,a.trans0 b⟩
end Go.Proofs.YthljnnjpmdgkoaaGreat
