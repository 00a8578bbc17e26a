/- Own lemmas. -/
import Derived.Test.YtdgkdfmfoonbpaaGreatR32
import Derived.Test.YtdgkdfmfoonbpaaGreatR15
import Derived.Test.YtdgkdfmfoonbpaaGreatR07
import Derived.Test.YtdgkdfmfoonbpaaGreatR19
import Derived.Test.YtdgkdfmfoonbpaaGreatR24
import Derived.Test.YtdgkdfmfoonbpaaGreatR16
import Derived.Test.YtdgkdfmfoonbpaaGreatR23
import Derived.Test.YtdgkdfmfoonbpaaGreatR30
import Derived.Deep.RegionHeld3
import Derived.Deep.DeepCutAuto
import Derived.BigRegion
import Derived.ProofKit
import Derived.Deep.Slices
import Derived.Deep.Fields
import Derived.ChangeSame
namespace Go.Proofs.YtdgkdfmfoonbpaaGreat
open Go Go.Proofs Go.RowKit
set_option maxRecDepth 100000
section
variable {TA:zai} {w W W':World} {h s x y bw k:Nat} {S:St} {D:Doc} {H H':Hb} {B X B':Nat->Prop} {all got:List Ev} {rev:Int} {ended:Bool} {t:Wt}
theorem PreC.opened (a:PreC TA w W h s x bw k S D H B X all got rev ended t) (b1:Both TA W' h s k (k+1) S D H' B') (b2:Fr B W W') (b3:∀ b,B' b->B b\/W.heap.size<=b):PreC TA w W' h s x bw (k+1) S D H' B' X all got rev ended t:=by
 have e:=a.fr.size;have c:=a.seen.lt;have d:=zac a.wb;exact { both:=b1.mono (Nat.le_succ k) (Nat.le_refl (k+1)),seen:=a.seen.fr b2 a.dis,dis:=fun b h1 h2=>(b3 b h2).elim (a.dis b h1) fun h3=>(by have:=c b h1;omega),nb:=fun b hb=>(b3 b hb).elim (a.nb b) fun h3=>(by omega),nx:=a.nx,told:=a.told,len:=Nat.le_trans a.len (Nat.mul_le_mul_right _ (Nat.le_succ k)),fr:=a.fr.trans b2 fun b hb h3=>(by have:=a.nb b h3;omega),wb:=b2.heap a.wb a.wB,lw:=a.lw,wB:=fun h3=>(b3 _ h3).elim a.wB fun h4=>(by omega),wX:=a.wX }
theorem PreC.wset (hT:TreeOk TA 1000000) (a:PreC TA w W h s x bw k S D H B X all got rev ended t) (f:Int):PreC TA w (W.setCell ⟨bw,2,none⟩ (.int .i64 f)) h s x bw k S D H B X all got rev ended (fromW t f):=by
 have c:Fr (fun b=>b=bw) W (W.setCell ⟨bw,2,none⟩ (.int .i64 f)):=Fr.setCell (p:=⟨bw,2,none⟩) (Fr.refl (fun b=>b=bw) W) (.inl rfl) _;exact { a with both:=a.both.fr hT c fun b hb e=>(by have d:b=bw:=e;rw [d] at hb;exact a.wB hb),seen:=a.seen.fr c fun b hb e=>(by have d:b=bw:=e;rw [d] at hb;exact a.wX hb),fr:=a.fr.trans c fun b hb e=>(by have d:b=bw:=e;have:=a.lw;omega),wb:=(by rw [zab a.wb 2 _];rfl) }
theorem PreC.rset (hT:TreeOk TA 1000000) (a:PreC TA w W h s x bw k S D H B X all got rev ended t) (r:Int):PreC TA w (W.setCell ⟨x,2,none⟩ (.int .i64 r)) h s x bw k S D H B X all got r ended t:=by
 have c:Fr (fun b=>b=x) W (W.setCell ⟨x,2,none⟩ (.int .i64 r)):=Fr.setCell (p:=⟨x,2,none⟩) (Fr.refl (fun b=>b=x) W) (.inl rfl) _;obtain ⟨m,n,l,f⟩:=a.seen;have d:X x:=(f x).2 (.inl rfl);have i:¬ B x:=a.dis x d;have j:=(l.put 2 (.int .i64 r) (rev':=r) (ended':=ended) rfl).1;exact { both:=a.both.fr hT c fun b hb e=>(by have g:b=x:=e;rw [g] at hb;exact i hb),seen:=⟨m,n,j,f⟩,dis:=a.dis,nb:=a.nb,nx:=a.nx,told:=a.told,len:=a.len,fr:=a.fr.trans c fun b hb e=>(by have g:b=x:=e;have:=a.nx x d;omega),wb:=c.heap a.wb fun e=>a.wX (by have g:bw=x:=e;rw [g];exact d),lw:=a.lw,wB:=a.wB,wX:=a.wX }
end
def Res1 (TA:zai) (w W:World) (h s x bw k:Nat) (t:Wt):Prop:=∃ S D H B X all,PreC TA w W h s x bw k S D H B X all [] 0 false t
def Res2 (TA:zai) (w W:World) (h s x bw k:Nat) (t:Wt) (b0 id:Int):Prop:=∃ S D H B X all got rev ended,PreC TA w W h s x bw k S D H B X all got rev ended t/\SnW t b0 all H id rev got ended/\id<=H.last
def Res3 (TA:zai) (w W:World) (h s x y bw k:Nat) (t:Wt) (b0 id oid:Int) (a0:List Ev) (r0:Int):Prop:=∃ S D H B X Y all gx rx ex gy ry ey,Two TA w W h s x y bw k S D H B X Y all gx rx ex gy ry ey t/\SnW t b0 all H id rx gx ex/\SnW (fromW t (max (r0+1) t.frm)) r0 all H oid ry gy ey/\r0<=rx/\r0<=ry/\r0<=D.rev/\∃ more,all=a0++more/\∀ e∈more,r0<e.kv.mod
section
variable {TA:zai} (hT:TreeOk TA 1000000) {w W W':World} {h s x y bw k k':Nat} {t:Wt} {b0 id oid r0:Int} {a0:List Ev}
include hT
theorem Res1.step (hTD:TreeDl TA) (a:Res1 TA w W h s x bw k t) (hk:k<=199) {q:ActQ} (hq1:fewCal q.call=true) (hq2:q.w.key.size<=3000) (hfr:(Lit.int .i64 q.w.frm).wf=true) (ho:SlR w 10 opC q.call.1.ops q.call.2.1) (hks:SlR w 1 strC q.call.1.keys q.call.2.2) :
 Calls Tryz.prog 22 #[.pointer (some ⟨x,0,none⟩),.pointer (some ⟨s,0,none⟩),.pointer (some ⟨h,0,none⟩),.agg (actC q).toArray] W fun e W'=>e=.returned (.tuple #[])/\Res1 TA w W' h s x bw (k+1) t:=by
 obtain ⟨S,D,H,B,X,all,a⟩:=a;refine (a.stepTo hT hTD hk hq1 hq2 hfr ho hks).mono ?_;rintro e W' ⟨rfl,f,c,d,b,g,more,p,_⟩;exact ⟨rfl,f,c,d,b,g,_,p⟩
theorem Res2.step (hTD:TreeDl TA) (a:Res2 TA w W h s x bw k t b0 id) (hk:k<=199) {q:ActQ} (hq1:fewCal q.call=true) (hq2:q.w.key.size<=3000) (hfr:(Lit.int .i64 q.w.frm).wf=true) (ho:SlR w 10 opC q.call.1.ops q.call.2.1) (hks:SlR w 1 strC q.call.1.keys q.call.2.2) :
 Calls Tryz.prog 22 #[.pointer (some ⟨x,0,none⟩),.pointer (some ⟨s,0,none⟩),.pointer (some ⟨h,0,none⟩),.agg (actC q).toArray] W fun e W'=>e=.returned (.tuple #[])/\Res2 TA w W' h s x bw (k+1) t b0 id:=by
 obtain ⟨S,D,H,B,X,all,got,rev,d,a,b,c⟩:=a;refine (a.stepTo hT hTD hk hq1 hq2 hfr ho hks).mono ?_;rintro e W' ⟨rfl,j,g,i,f,l,more,p,_,n,_,_,m⟩;exact ⟨rfl,j,g,i,f,l,_,got,rev,d,p,m _ _ _ _ _ _ b,by omega⟩
theorem Res2.take (a:Res2 TA w W h s x bw k t b0 id) (hk:k<=199) (hid:(Lit.int .i64 id).wf=true) :
 Calls Tryz.prog 21 #[.pointer (some ⟨x,0,none⟩),.pointer (some ⟨s,0,none⟩),.pointer (some ⟨h,0,none⟩),.int .i64 id] W fun e W'=>e=.returned (.tuple #[])/\Res2 TA w W' h s x bw k t b0 id:=by
 obtain ⟨S,D,H,B,X,all,got,rev,f,a,b,c⟩:=a;refine (zhx hT a.both hk a.seen a.dis a.told a.len hid b).mono ?_;rintro e W' ⟨rfl,g,i,d,rev',ended',p,j,_⟩;exact ⟨rfl,S,D,_,g,i,all,d,rev',ended',a.goes p a.told a.len,j,by rw [(zeo D H id).2.1];exact c⟩
theorem Res3.step (hTD:TreeDl TA) (a:Res3 TA w W h s x y bw k t b0 id oid a0 r0) (hk:k<=199) {q:ActQ} (hq1:fewCal q.call=true) (hq2:q.w.key.size<=3000) (hfr:(Lit.int .i64 q.w.frm).wf=true) (ho:SlR w 10 opC q.call.1.ops q.call.2.1) (hks:SlR w 1 strC q.call.1.keys q.call.2.2) :
 Calls Tryz.prog 22 #[.pointer (some ⟨x,0,none⟩),.pointer (some ⟨s,0,none⟩),.pointer (some ⟨h,0,none⟩),.agg (actC q).toArray] W fun e W'=>e=.returned (.tuple #[])/\Res3 TA w W' h s x y bw (k+1) t b0 id oid a0 r0:=by
 obtain ⟨S,D,H,B,X,Y,all,C,I,z,E,J,A,a,b,c,o,r,K,m,u,v⟩:=a;refine (a.p.stepTo hT hTD hk hq1 hq2 hfr ho hks).mono ?_;rintro e W' ⟨rfl,l,i,j,g,n,more,p,F,L,G,M,f⟩;refine ⟨rfl,l,i,j,g,n,Y,_,C,I,z,E,J,A,a.goX F p,f _ _ _ _ _ _ b,f _ _ _ _ _ _ c,o,r,by omega,m++more,by rw [u,List.append_assoc],fun e he=>?_⟩;rcases List.mem_append.1 he with d | d
 · exact v e d
 have:=G e d
 omega
theorem Res3.takeX (a:Res3 TA w W h s x y bw k t b0 id oid a0 r0) (hk:k<=199) (hid:(Lit.int .i64 id).wf=true) (hne:oid≠id) :
 Calls Tryz.prog 21 #[.pointer (some ⟨x,0,none⟩),.pointer (some ⟨s,0,none⟩),.pointer (some ⟨h,0,none⟩),.int .i64 id] W fun e W'=>e=.returned (.tuple #[])/\Res3 TA w W' h s x y bw k t b0 id oid a0 r0:=by
 obtain ⟨S,D,H,B,X,Y,all,v,A,u,n,q,m,a,b,c,r,i,j,l⟩:=a;refine (zhx hT a.p.both hk a.p.seen a.p.dis a.p.told a.p.len hid b).mono ?_;rintro e W' ⟨rfl,f,g,d,rev',ended',p,o,z⟩;exact ⟨rfl,S,D,_,f,g,Y,all,d,rev',ended',n,q,m,a.goX p (a.p.goes p a.p.told a.p.len),o,c.takeOther D hne,by omega,i,j,l⟩
theorem Res3.takeY (a:Res3 TA w W h s x y bw k t b0 id oid a0 r0) (hk:k<=199) (hid:(Lit.int .i64 oid).wf=true) (hne:oid≠id) :
 Calls Tryz.prog 21 #[.pointer (some ⟨y,0,none⟩),.pointer (some ⟨s,0,none⟩),.pointer (some ⟨h,0,none⟩),.int .i64 oid] W fun e W'=>e=.returned (.tuple #[])/\Res3 TA w W' h s x y bw k t b0 id oid a0 r0:=by
 obtain ⟨S,D,H,B,X,Y,all,n,q,m,v,A,u,a,b,c,i,r,j,l⟩:=a;refine (zhx hT a.p.both hk a.sy a.yB a.p.told a.p.len hid c).mono ?_;rintro e W' ⟨rfl,f,g,d,rev',ended',p,o,z⟩;exact ⟨rfl,S,D,_,f,X,g,all,n,q,m,d,rev',ended',a.goY p,b.takeOther D (Ne.symm hne),o,i,by omega,j,l⟩
theorem Res2.fr0 (a:Res2 TA w W h s x bw k t b0 id) (hf:Fr No W W'):Res2 TA w W' h s x bw k t b0 id:=by
 obtain ⟨S,D,H,B,X,all,got,rev,c,a,b⟩:=a;exact ⟨S,D,H,B,X,all,got,rev,c,a.fr0 hT hf,b⟩
theorem Res3.fr0 (a:Res3 TA w W h s x y bw k t b0 id oid a0 r0) (hf:Fr No W W'):Res3 TA w W' h s x y bw k t b0 id oid a0 r0:=by
 obtain ⟨S,D,H,B,X,Y,all,e,g,c,f,i,d,a,b⟩:=a;exact ⟨S,D,H,B,X,Y,all,e,g,c,f,i,d,a.fr0 hT hf,b⟩
end
section
variable {TA:zai} {w W:World} {h s x y bw k k':Nat} {t:Wt} {b0 id oid r0:Int} {a0:List Ev}
theorem Res1.fr (a:Res1 TA w W h s x bw k t):Fr No w W:=by
 obtain ⟨S,D,H,B,X,all,a⟩:=a;exact a.fr
theorem Res2.fr (a:Res2 TA w W h s x bw k t b0 id):Fr No w W:=by
 obtain ⟨S,D,H,B,X,all,got,rev,c,a,b⟩:=a;exact a.fr
theorem Res3.fr (a:Res3 TA w W h s x y bw k t b0 id oid a0 r0):Fr No w W:=by
 obtain ⟨S,D,H,B,X,Y,all,e,g,c,f,i,d,a,b⟩:=a;exact a.p.fr
theorem Res1.mono (a:Res1 TA w W h s x bw k t) (hk:k<=k'):Res1 TA w W h s x bw k' t:=by
 obtain ⟨S,D,H,B,X,all,a⟩:=a;exact ⟨S,D,H,B,X,all,a.mono hk⟩
theorem Res2.mono (a:Res2 TA w W h s x bw k t b0 id) (hk:k<=k'):Res2 TA w W h s x bw k' t b0 id:=by
 obtain ⟨S,D,H,B,X,all,got,rev,c,a,b⟩:=a;exact ⟨S,D,H,B,X,all,got,rev,c,a.mono hk,b⟩
theorem Res3.mono (a:Res3 TA w W h s x y bw k t b0 id oid a0 r0) (hk:k<=k'):Res3 TA w W h s x y bw k' t b0 id oid a0 r0:=by
 obtain ⟨S,D,H,B,X,Y,all,e,g,c,f,i,d,a,b⟩:=a;exact ⟨S,D,H,B,X,Y,all,e,g,c,f,i,d,a.mono hk,b⟩
end
theorem Res3.start {TA:zai} (hT:TreeOk TA 1000000) {w W W':World} {h s x y bw k:Nat} {S:St} {D:Doc} {H:Hb} {B X:Nat->Prop} {all got:List Ev} {r0 b0 id:Int} {t:Wt} (a:PreC TA w W h s x bw k S D (openH H (fromW t (max (r0+1) t.frm))) B X all got r0 false t) (b:SnW t b0 all H id r0 got false) (hk:HbOk H) (hi:id<=H.last) (hf:H.fed<=D.rev)
 (hF:Fr No W W') (hy:W'.heap[y]?=some (.cells #[.slice none 0 0,.slice none 0 0,.int .i64 r0,.bool false,.bool false] 56 (0,0))) (hn:W.heap.size<=y):Res3 TA w W' h s x y bw k t b0 id (H.last+1) all r0:=by
 have n:=a.fr.size;have f:=a.both.lt hT;have j:=a.seen.lt;have l:=zac a.wb;have d:∀ b,seenF y (.slice none 0 0) (.slice none 0 0) b->b=y:=fun b hb=>by rcases hb with c | c | c;exact c;all_goals simp [Value.ownBlock] at c
 obtain ⟨o,q,m⟩:=b.low;have g:=hk.none (i:=H.last+1) (.inl (by omega));refine ⟨S,D,_,B,X,seenF y (.slice none 0 0) (.slice none 0 0),all,got,r0,false,[],r0,false,{ p:=a.fr0 hT hF,sy:=⟨_,_,⟨hy,SlF.nil _ _ _ _,SlF.nil _ _ _ _,by simp [Value.ownBlock],by simp [Value.ownBlock],by simp [Value.ownBlock]⟩,fun b=>Iff.rfl⟩,yB:=fun b c h2=>by have:=d b c;have:=f b h2;omega,yX:=fun b c h2=>by have:=d b c;have:=j b h2;omega,ny:=fun b c=>by have:=d b c;omega,wY:=fun c=>by have:=d bw c;omega },b.openOther hk _ hi,.inl ⟨rfl,openS H (fromW t (max (r0+1) t.frm)),?_,SnInv.openV (by omega) m⟩,Int.le_refl _,Int.le_refl _,by omega,[],(List.append_nil _).symm,fun e he=>by simp at he⟩
 show getH (H.L++[(H.last+1,openS H (fromW t (max (r0+1) t.frm)))]) (H.last+1)=_
 rw [zga g,if_pos rfl]
theorem zpp {w:World} {v:Value} {L:List Ev} (h:SlF w 72 13 evC v L) {p:Nat} (hp:p<=L.length):(v=.slice none 0 0/\p=0/\L = []) ∨
 ∃ g o cap,v=.slice (some ⟨g,o,none⟩) L.length cap/\L.length<=cap/\((cap=p/\SlR w 13 evC (.slice (some ⟨g,o,none⟩) 0 0) (L.drop p))\/(p<cap/\SlR w 13 evC (.slice (some ⟨g,o+p * 13,none⟩) (L.length-p) (cap-p)) (L.drop p))):=by
 obtain ⟨a,cap,d,m,t,u⟩:=h.shape;by_cases h0:v=.slice none 0 0
 · left
   rw [d] at h0;simp only [Value.slice.injEq] at h0;have n:=List.eq_nil_of_length_eq_zero h0.2.1;subst n;have f:p=0:=(by simpa using hp);exact ⟨by rw [d,h0.1,h0.2.2];rfl,f,rfl⟩
 right
 obtain ⟨_,q | ⟨g,o,c,j,i,e,_⟩⟩:=id h
 · exact absurd q.1 h0
 rw [d] at i
 simp only [Value.slice.injEq] at i;obtain ⟨k,r,s⟩:=i;subst k;subst d;have b:=(h.toR zaa).drop zaa p hp;refine ⟨g,o,cap,rfl,m,?_⟩;by_cases e:cap=p
 · left
   subst e;rw [if_pos rfl] at b;have l:L.length-cap=0:=(by omega);rw [l,Nat.sub_self] at b;exact ⟨rfl,b⟩
 right
 rw [if_neg e] at b;exact ⟨by omega,b⟩
theorem zli (w:World) (x:Kv):Calls Tryz.prog 51 #[kvV x,kvV x] w fun e w'=>e=.returned (.bool true)/\Fr No w w':=by
 obtain ⟨a,b,c,d,f,g⟩:=x;unfold kvV;dsimp only;go_enter Tryz.func51,Tryz.ntmps51;go_wp2;go_ret;exact ⟨rfl,((Fr.refl No w).alloc _).alloc _⟩
set_option maxHeartbeats 4000000 in
theorem zgq (w:World) (u v:Value) (L:List Ev) (hu:SlR w 13 evC u L) (hv:SlR w 13 evC v L) (hl:L.length<=9000000000) :
 Calls Tryz.prog 26 #[u,v] w fun e w'=>e=.returned (.bool true)/\Fr No w w':=by
 obtain ⟨a,ca,rfl,av,aw,J⟩:=hu.shape;obtain ⟨b,cb,rfl,ax,ay,K⟩:=hv.shape;have HU:=H_ hu;have HV:=H_ hv;have HA:=H_ J;have HB:=H_ K;clear hu hv J K;go_enter Tryz.func26,Tryz.ntmps26;go_wp2
 go_loopg [5] L.length (fun g s5 wr=>∃ i:Nat,s5=.int .i64 i/\i+g=L.length/\Hid (Fr No w wr))
 case atStart=>exact ⟨0,rfl,by simp,H_ (Fr.refl No w)⟩
 case round =>
  obtain ⟨i,rfl,hi,O⟩:=hrel
  cases gk with
  | zero =>
    have a2:¬ (i:Int)<(L.length:Int):=(by omega);go_wp2;go_ret;exact ⟨rfl,O.out⟩
  | succ g =>
    have a2:(i:Int)<(L.length:Int):=(by omega);obtain ⟨x,f⟩:∃ x,L[i]?=some x:=⟨_,List.getElem?_eq_getElem (by omega)⟩;obtain ⟨j,l,rfl⟩:=HA.out (by omega);obtain ⟨k,m,rfl⟩:=HB.out (by omega);have c:=HU.out.fr0 O.out;have d:=HV.out.fr0 O.out;have f0:=c.cell0 zaa i f rfl;have q0:=d.cell0 zaa i f rfl;have f1:=c.cell zaa i 1 f rfl;have q1:=d.cell zaa i 1 f rfl;have f2:=c.cell zaa i 2 f rfl;have q2:=d.cell zaa i 2 f rfl;have f3:=c.cell zaa i 3 f rfl;have q3:=d.cell zaa i 3 f rfl;have f4:=c.cell zaa i 4 f rfl;have q4:=d.cell zaa i 4 f rfl;have f5:=c.cell zaa i 5 f rfl;have q5:=d.cell zaa i 5 f rfl;have f6:=c.cell zaa i 6 f rfl;have q6:=d.cell zaa i 6 f rfl;have f7:=c.cell zaa i 7 f rfl;have q7:=d.cell zaa i 7 f rfl;have f8:=c.cell zaa i 8 f rfl
    have q8:=d.cell zaa i 8 f rfl;have f9:=c.cell zaa i 9 f rfl;have q9:=d.cell zaa i 9 f rfl;have Z:=c.cell zaa i 10 f rfl;have a3:=d.cell zaa i 10 f rfl;have a0:=c.cell zaa i 11 f rfl;have a4:=d.cell zaa i 11 f rfl;have a1:=c.cell zaa i 12 f rfl;have a5:=d.cell zaa i 12 f rfl;have lf:=World.block_lt_of_cell? _ _ f0;have lq:=World.block_lt_of_cell? _ _ q0;clear f c d;obtain ⟨P,⟨A,B,C,D,E,F⟩,⟨G,H,I,q,r,s⟩⟩:=x;dsimp only at *
    have z:Hid (∀ W,Fr No wr W->W.cell? ⟨j,l+i * 13,none⟩=some (.int .i64 P)/\W.cell? ⟨j,l+i * 13+1,none⟩=some (.string A)/\W.cell? ⟨j,l+i * 13+2,none⟩=some (.string B)/\W.cell? ⟨j,l+i * 13+3,none⟩=some (.int .i64 C)/\W.cell? ⟨j,l+i * 13+4,none⟩=some (.int .i64 D)/\W.cell? ⟨j,l+i * 13+5,none⟩=some (.int .i64 E)/\W.cell? ⟨j,l+i * 13+6,none⟩=some (.int .i64 F)/\W.cell? ⟨j,l+i * 13+7,none⟩=some (.string G)/\W.cell? ⟨j,l+i * 13+8,none⟩=some (.string H)/\W.cell? ⟨j,l+i * 13+9,none⟩=some (.int .i64 I)/\W.cell? ⟨j,l+i * 13+10,none⟩=some (.int .i64 q)/\W.cell? ⟨j,l+i * 13+11,none⟩=some (.int .i64 r)/\W.cell? ⟨j,l+i * 13+12,none⟩=some (.int .i64 s)/\W.cell? ⟨k,m+i * 13,none⟩=some (.int .i64 P)/\W.cell? ⟨k,m+i * 13+1,none⟩=some (.string A)/\W.cell? ⟨k,m+i * 13+2,none⟩=some (.string B)/\W.cell? ⟨k,m+i * 13+3,none⟩=some (.int .i64 C)/\W.cell? ⟨k,m+i * 13+4,none⟩=some (.int .i64 D)/\W.cell? ⟨k,m+i * 13+5,none⟩=some (.int .i64 E)/\W.cell? ⟨k,m+i * 13+6,none⟩=some (.int .i64 F)/\W.cell? ⟨k,m+i * 13+7,none⟩=some (.string G)/\W.cell? ⟨k,m+i * 13+8,none⟩=some (.string H)/\W.cell? ⟨k,m+i * 13+9,none⟩=some (.int .i64 I)/\W.cell? ⟨k,m+i * 13+10,none⟩=some (.int .i64 q)/\W.cell? ⟨k,m+i * 13+11,none⟩=some (.int .i64 r)/\W.cell? ⟨k,m+i * 13+12,none⟩=some (.int .i64 s)):=H_ fun W hW=>⟨hW.cell0 f0,hW.cell0 f1,hW.cell0 f2,hW.cell0 f3,hW.cell0 f4,hW.cell0 f5,hW.cell0 f6,hW.cell0 f7,hW.cell0 f8,hW.cell0 f9,hW.cell0 Z,hW.cell0 a0,hW.cell0 a1,hW.cell0 q0,hW.cell0 q1,hW.cell0 q2,hW.cell0 q3,hW.cell0 q4,hW.cell0 q5,hW.cell0 q6,hW.cell0 q7,hW.cell0 q8,hW.cell0 q9,hW.cell0 a3,hW.cell0 a4,hW.cell0 a5⟩
    have b1:=z.out wr (Fr.refl No wr);have b2:=z.out wr.drew (Fr.refl No wr).drew;have N:Hid (∀ (W:World) (k1 k2:ByteArray) (k3 k4 k5 k6:Int),Calls Tryz.prog 51 #[.agg #[.string k1,.string k2,.int .i64 k3,.int .i64 k4,.int .i64 k5,.int .i64 k6],.agg #[.string k1,.string k2,.int .i64 k3,.int .i64 k4,.int .i64 k5,.int .i64 k6]] W fun e w'=>e=.returned (.bool true)/\Fr No W w'):=H_ fun W k1 k2 k3 k4 k5 k6=>zli W ⟨k1,k2,k3,k4,k5,k6⟩;have C1:=H_ (N.out wr A B C D E F);have Q:=H_ (N.out wr.drew A B C D E F);have HD:=H_ (Fr.refl No wr).drew;go_upto_region 6 with fail
    go_cut [55] (fun sc wx=>sc=.bool false/\Hid (Fr No wr wx))
    case first =>
     go_region_held3 (fun W=>W.cell? ⟨j,l+i * 13,none⟩=some (.int .i64 P)/\W.cell? ⟨j,l+i * 13+1,none⟩=some (.string A)/\W.cell? ⟨j,l+i * 13+2,none⟩=some (.string B)/\W.cell? ⟨j,l+i * 13+3,none⟩=some (.int .i64 C)/\W.cell? ⟨j,l+i * 13+4,none⟩=some (.int .i64 D)/\W.cell? ⟨j,l+i * 13+5,none⟩=some (.int .i64 E)/\W.cell? ⟨j,l+i * 13+6,none⟩=some (.int .i64 F)/\W.cell? ⟨j,l+i * 13+7,none⟩=some (.string G)/\W.cell? ⟨j,l+i * 13+8,none⟩=some (.string H)/\W.cell? ⟨j,l+i * 13+9,none⟩=some (.int .i64 I)/\W.cell? ⟨j,l+i * 13+10,none⟩=some (.int .i64 q)/\W.cell? ⟨j,l+i * 13+11,none⟩=some (.int .i64 r)/\W.cell? ⟨j,l+i * 13+12,none⟩=some (.int .i64 s)/\W.cell? ⟨k,m+i * 13,none⟩=some (.int .i64 P)/\W.cell? ⟨k,m+i * 13+1,none⟩=some (.string A)/\W.cell? ⟨k,m+i * 13+2,none⟩=some (.string B)/\W.cell? ⟨k,m+i * 13+3,none⟩=some (.int .i64 C)/\W.cell? ⟨k,m+i * 13+4,none⟩=some (.int .i64 D)/\W.cell? ⟨k,m+i * 13+5,none⟩=some (.int .i64 E)/\W.cell? ⟨k,m+i * 13+6,none⟩=some (.int .i64 F)/\W.cell? ⟨k,m+i * 13+7,none⟩=some (.string G)/\W.cell? ⟨k,m+i * 13+8,none⟩=some (.string H)/\W.cell? ⟨k,m+i * 13+9,none⟩=some (.int .i64 I)/\W.cell? ⟨k,m+i * 13+10,none⟩=some (.int .i64 q)/\W.cell? ⟨k,m+i * 13+11,none⟩=some (.int .i64 r)/\W.cell? ⟨k,m+i * 13+12,none⟩=some (.int .i64 s))
      (first | with_reducible exact b1 | with_reducible exact b2 | with_reducible exact b3 | with_reducible exact X | with_reducible exact b4 | with_reducible exact Y)
      (first
        | (go_at_call 51;(first | with_reducible refine C1.out.mono ?_ | with_reducible refine Q.out.mono ?_);rintro e M ⟨rfl,t⟩
           have n:Fr No wr M:=(by first | with_reducible exact t | with_reducible exact HD.out.trans0 t);have b3:=z.out M n;have X:=z.out M.drew n.drew;have C2:=H_ (N.out M G H I q r s);have R:=H_ (N.out M.drew G H I q r s);have U:=H_ n;have S:=H_ n.drew;clear t n)
        | (go_at_call 51;(first | with_reducible refine C2.out.mono ?_ | with_reducible refine R.out.mono ?_);rintro e w4 ⟨rfl,y⟩
           have o:Fr No wr w4:=(by first | with_reducible exact U.out.trans0 y | with_reducible exact S.out.trans0 y);have b4:=z.out w4 o;have Y:=z.out w4.drew o.drew;have V:=H_ o;have T:=H_ o.drew;clear y o))
     all_goals
      go_wp2;go_meet
      case rel=>exact ⟨rfl,by first | with_reducible exact V | with_reducible exact T⟩
    case rest =>
     obtain ⟨rfl,HX⟩:=hcut;go_wp2;go_roundg g
     case rel=>exact ⟨i+1,by go_num,by omega,H_ (O.out.trans0 HX.out)⟩
     case measure=>omega
theorem zhf (w:World) (u v:Value) (L:List Ev) (hu:SlF w 72 13 evC u L) (hv:SlF w 72 13 evC v L) (hl:L.length<=9000000000) :
 Calls Tryz.prog 26 #[u,v] w fun e w'=>e=.returned (.bool true)/\Fr No w w':=zgq w u v L (hu.toR zaa) (hv.toR zaa) hl
open Go Go.Proofs Go.ChangeShapes Go.WideShapes Go.ChangeAt Go.RowKit Go.Deep
theorem zng {α:Type} (P:Nat->α->Prop):∀ n:Nat,(∀ i,i<n->∃ x,P i x)->∃ L:List α,L.length=n/\∀ (i:Nat) (x:α),L[i]?=some x->P i x
 | 0,_=>⟨[],rfl,fun i x h=>by simp at h⟩
 | n+1,h=>by
   obtain ⟨L,h1,h2⟩:=zng P n fun i hi=>h i (by omega);obtain ⟨x,hx⟩:=h n (by omega);refine ⟨L++[x],by simp [h1],fun i y hy=>?_⟩;by_cases hi:i<L.length
   · rw [List.getElem?_append_left hi] at hy
     exact h2 i y hy
   rw [List.getElem?_append_right (by omega)] at hy
   have h0:i-L.length=0:=by
    have:=(List.getElem?_eq_some_iff.1 hy).1;simp at this;omega
   rw [h0] at hy;simp at hy;subst hy;rw [show i=n by omega];exact hx
section
variable {H:Type} {enc:TypeId×Value->H} {w:World} {base:Nat} {spare:Nat->Bool} {held:Bool}
theorem zlq {α:Type} {t e:TypeId} {sz:Nat} (f:α->List Value) (hu:Tryz.prog.underlying t=some (.slice e)) (hC:Tryz.prog.cellsOf e=sz) (hsz:0<sz) (hf:∀ x,(f x).length=sz)
 (hel:∀ n cs x,DataW.trod enc Tryz.prog w base spare held n e cs=some x->cs.length=sz->∃ y,cs=f y) {fuel:Nat} {cs:List Value} {x:DataW H×List MemPlace}
 (h:DataW.trod enc Tryz.prog w base spare held fuel t cs=some x):∃ v L,cs = [v]/\SlR w sz f v L/\∀ b,v.ownBlock=some b->base<=b:=by
 rcases open_slice hu h with ⟨rfl,_⟩ | ⟨a,len,cap,m,n,D,N,rfl,O,P,K,A,Q,G⟩
 · exact ⟨_,[],rfl,SlR.nil _ _ _,by simp [Value.ownBlock]⟩
 have J:len<=m:=by rw [A];split <;> omega
 obtain ⟨L,l,d⟩:=zng (fun i y=>∀ j,j<sz->w.cell? ((a.add (i * sz)).add j)=(f y)[j]?) len fun i him=>by
  obtain ⟨E,B,M⟩:=G i (by omega);rw [hC] at B;obtain ⟨_,s,r⟩:=World.cells?_some B;obtain ⟨y,rfl⟩:=hel _ _ _ M s;exact ⟨y,r⟩
 refine ⟨_,L,rfl,⟨some a,cap,by rw [l],by omega,K,fun hp=>?_⟩,fun b hb'=>?_⟩
 · obtain ⟨g,o,C⟩:=a
   have F:C=none:=by
    have c:∃ k,L[0]?=some k:=⟨_,List.getElem?_eq_getElem hp⟩;obtain ⟨k,c⟩:=c;have:=d 0 k c 0 hsz;have z:0<(f k).length:=(by rw [hf];exact hsz);rw [Nat.zero_mul] at this;simp only [Addr.add,if_true] at this;rw [List.getElem?_eq_getElem z] at this;unfold World.cell? at this
    cases C with
    | none=>rfl
    | some q =>
      simp only [Option.isSome_some,if_true] at this
      split at this <;> simp at this
   subst F;refine ⟨g,o,rfl,fun i y hy j u hu'=>?_⟩
   have I:j<sz:=by
    have:=(List.getElem?_eq_some_iff.1 hu').1
    rwa [hf] at this
   have:=d i y hy j I;rw [hu'] at this;rw [<-this]
   congr 1
   unfold Addr.add;by_cases h1:i * sz=0
   · by_cases h2:j=0
     · simp [h1,h2]
     simp [h1,h2]
   by_cases h2:j=0
   · simp [h1,h2]
   simp [h1,h2]
 simp [Value.ownBlock] at hb'
 omega
theorem Tryz.cells9:Tryz.prog.cellsOf 9=1:=by kernel_rfl
theorem Tryz.cells3:Tryz.prog.cellsOf 3=1:=by kernel_rfl
theorem Tryz.cells4:Tryz.prog.cellsOf 4=1:=by kernel_rfl
theorem Tryz.cells24:Tryz.prog.cellsOf 24=7:=by kernel_rfl
theorem Tryz.cells139:Tryz.prog.cellsOf 139=10:=by kernel_rfl
theorem Tryz.cells22:Tryz.prog.cellsOf 22=1:=by kernel_rfl
theorem zsk (n:Nat) (cs:List Value) (x:DataW H×List MemPlace) (h:DataW.trod enc Tryz.prog w base spare held n 24 cs=some x) (hl:cs.length=7):∃ y,cs=rgC y:=by
 obtain ⟨E,b,_,_,_,c,a⟩:=DataW.trod_struct Tryz.underlying24 h
 match cs,hl with
 | [c0,c1,c2,c3,c4,c5,c6],_ =>
   match E,c with
   | [y0,y1,y2,y3,y4,y5,y6],_ =>
     have l:DataW.trod enc Tryz.prog w base spare held b 9 [c0]=some y0:=(by have:=a 0 _ rfl;simpa [Tryz.cells9] using this);have m:DataW.trod enc Tryz.prog w base spare held b 9 [c1]=some y1:=(by have:=a 1 _ rfl;simpa [Tryz.cells9] using this);have o:DataW.trod enc Tryz.prog w base spare held b 3 [c2]=some y2:=(by have:=a 2 _ rfl;simpa [Tryz.cells3] using this);have q:DataW.trod enc Tryz.prog w base spare held b 3 [c3]=some y3:=(by have:=a 3 _ rfl;simpa [Tryz.cells3] using this);have r:DataW.trod enc Tryz.prog w base spare held b 4 [c4]=some y4:=(by have:=a 4 _ rfl;simpa [Tryz.cells4] using this);have s:DataW.trod enc Tryz.prog w base spare held b 4 [c5]=some y5:=(by have:=a 5 _ rfl;simpa [Tryz.cells4] using this)
     have t:DataW.trod enc Tryz.prog w base spare held b 4 [c6]=some y6:=(by have:=a 6 _ rfl;simpa [Tryz.cells4] using this);obtain ⟨u,d,_⟩:=DataW.trod_string Tryz.underlying9 l;obtain ⟨v,e,_⟩:=DataW.trod_string Tryz.underlying9 m;obtain ⟨z,f,_⟩:=DataW.trod_int Tryz.underlying3 o;obtain ⟨A,g,_⟩:=DataW.trod_int Tryz.underlying3 q;obtain ⟨B,i,_⟩:=DataW.trod_bool Tryz.underlying4 r;obtain ⟨C,j,_⟩:=DataW.trod_bool Tryz.underlying4 s;obtain ⟨D,k,_⟩:=DataW.trod_bool Tryz.underlying4 t;simp only [List.cons.injEq,and_true] at d e f g i j k;subst d e f g i j k;exact ⟨⟨u,v,z,A,B,C,D⟩,rfl⟩
theorem zwe (n:Nat) (cs:List Value) (x:DataW H×List MemPlace) (h:DataW.trod enc Tryz.prog w base spare held n 139 cs=some x) (hl:cs.length=10):∃ y,cs=opC y:=by
 obtain ⟨s,b,_,_,_,d,a⟩:=DataW.trod_struct Tryz.underlying139 h
 match cs,hl with
 | [c0,c1,c2,c3,c4,c5,c6,c7,c8,c9],_ =>
   match s,d with
   | [y0,y1,y2,y3],_ =>
     have i:DataW.trod enc Tryz.prog w base spare held b 3 [c0]=some y0:=(by have:=a 0 _ rfl;simpa [Tryz.cells3] using this);have j:DataW.trod enc Tryz.prog w base spare held b 24 [c1,c2,c3,c4,c5,c6,c7]=some y1:=(by have:=a 1 _ rfl;simpa [Tryz.cells24] using this);have k:DataW.trod enc Tryz.prog w base spare held b 9 [c8]=some y2:=(by have:=a 2 _ rfl;simpa [Tryz.cells9] using this);have l:DataW.trod enc Tryz.prog w base spare held b 3 [c9]=some y3:=(by have:=a 3 _ rfl;simpa [Tryz.cells3] using this);obtain ⟨m,e,_⟩:=DataW.trod_int Tryz.underlying3 i;obtain ⟨r,c⟩:=zsk _ _ _ j rfl;obtain ⟨o,f,_⟩:=DataW.trod_string Tryz.underlying9 k;obtain ⟨q,g,_⟩:=DataW.trod_int Tryz.underlying3 l;unfold rgC at c;simp only [List.cons.injEq,and_true] at e c f g;obtain ⟨rfl,rfl,rfl,rfl,rfl,rfl,rfl⟩:=c
     subst e f g;exact ⟨⟨m,r,o,q⟩,rfl⟩
end
section
variable {H:Type} {enc:TypeId×Value->H} {w:World} {base:Nat} {spare:Nat->Bool} {held:Bool}
theorem Tryz.cells25:Tryz.prog.cellsOf 25=1:=by kernel_rfl
theorem Tryz.cells27:Tryz.prog.cellsOf 27=12:=by kernel_rfl
theorem zul (n:Nat) (cs:List Value) (x:DataW H×List MemPlace) (h:DataW.trod enc Tryz.prog w base spare held n 9 cs=some x) (_:cs.length=1):∃ y,cs=strC y:=by
 obtain ⟨s,e,_⟩:=DataW.trod_string Tryz.underlying9 h;exact ⟨s,e⟩
theorem zum (n:Nat) (cs:List Value) (x:DataW H×List MemPlace) (h:DataW.trod enc Tryz.prog w base spare held n 27 cs=some x) (hl:cs.length=12) :
 ∃ q:Cal×List Opr×List ByteArray,cs=calC q/\SlR w 10 opC q.1.ops q.2.1/\SlR w 1 strC q.1.keys q.2.2:=by
 obtain ⟨D,b,_,_,_,d,a⟩:=DataW.trod_struct Tryz.underlying27 h
 match cs,hl with
 | [c0,c1,c2,c3,c4,c5,c6,c7,c8,c9,c10,c11],_ =>
   match D,d with
   | [y0,y1,y2,y3,y4,y5],_ =>
     have m:DataW.trod enc Tryz.prog w base spare held b 3 [c0]=some y0:=(by have:=a 0 _ rfl;simpa [Tryz.cells3,Value.cells] using this);have o:DataW.trod enc Tryz.prog w base spare held b 22 [c1]=some y1:=(by have:=a 1 _ rfl;simpa [Tryz.cells22,Value.cells] using this);have s:DataW.trod enc Tryz.prog w base spare held b 24 [c2,c3,c4,c5,c6,c7,c8]=some y2:=(by have:=a 2 _ rfl;simpa [Tryz.cells24,Value.cells] using this);have t:DataW.trod enc Tryz.prog w base spare held b 3 [c9]=some y3:=(by have:=a 3 _ rfl;simpa [Tryz.cells3,Value.cells] using this);have u:DataW.trod enc Tryz.prog w base spare held b 3 [c10]=some y4:=(by have:=a 4 _ rfl;simpa [Tryz.cells3,Value.cells] using this)
     have v:DataW.trod enc Tryz.prog w base spare held b 25 [c11]=some y5:=(by have:=a 5 _ rfl;simpa [Tryz.cells25,Value.cells] using this);obtain ⟨A,e,_⟩:=DataW.trod_int Tryz.underlying3 m;obtain ⟨E,k,f,y,_⟩:=zlq opC Tryz.underlying22 Tryz.cells139 (by omega) zaf (fun n cs x=>zwe n cs x) o;obtain ⟨r,c⟩:=zsk _ _ _ s rfl;obtain ⟨B,g,_⟩:=DataW.trod_int Tryz.underlying3 t;obtain ⟨C,i,_⟩:=DataW.trod_int Tryz.underlying3 u;obtain ⟨F,l,j,z,_⟩:=zlq strC Tryz.underlying25 Tryz.cells9 (by omega) zdt (fun n cs x=>zul n cs x) v;unfold rgC at c;simp only [List.cons.injEq,and_true] at e f c g i j;obtain ⟨rfl,rfl,rfl,rfl,rfl,rfl,rfl⟩:=c;subst e f g i j;exact ⟨(⟨A,_,r,B,C,_⟩,k,l),rfl,y,z⟩
end
section
variable {H:Type} {enc:TypeId×Value->H} {w:World} {base:Nat} {spare:Nat->Bool} {held:Bool}
theorem Tryz.cells29:Tryz.prog.cellsOf 29=6:=by kernel_rfl
theorem Tryz.cells31:Tryz.prog.cellsOf 31=20:=by kernel_rfl
theorem zsj (n:Nat) (cs:List Value) (x:DataW H×List MemPlace) (h:DataW.trod enc Tryz.prog w base spare held n 29 cs=some x) (hl:cs.length=6):∃ t:Wt,cs=wtC t/\(Lit.int .i64 t.frm).wf=true:=by
 obtain ⟨C,b,_,_,_,c,a⟩:=DataW.trod_struct Tryz.underlying29 h
 match cs,hl with
 | [c0,c1,c2,c3,c4,c5],_ =>
   match C,c with
   | [y0,y1,y2,y3,y4,y5],_ =>
     have k:DataW.trod enc Tryz.prog w base spare held b 9 [c0]=some y0:=(by have:=a 0 _ rfl;simpa [Tryz.cells9] using this);have l:DataW.trod enc Tryz.prog w base spare held b 9 [c1]=some y1:=(by have:=a 1 _ rfl;simpa [Tryz.cells9] using this);have m:DataW.trod enc Tryz.prog w base spare held b 3 [c2]=some y2:=(by have:=a 2 _ rfl;simpa [Tryz.cells9,Tryz.cells3] using this);have o:DataW.trod enc Tryz.prog w base spare held b 4 [c3]=some y3:=(by have:=a 3 _ rfl;simpa [Tryz.cells9,Tryz.cells3,Tryz.cells4] using this);have q:DataW.trod enc Tryz.prog w base spare held b 4 [c4]=some y4:=(by have:=a 4 _ rfl;simpa [Tryz.cells9,Tryz.cells3,Tryz.cells4] using this);have r:DataW.trod enc Tryz.prog w base spare held b 4 [c5]=some y5:=(by have:=a 5 _ rfl;simpa [Tryz.cells9,Tryz.cells3,Tryz.cells4] using this)
     obtain ⟨s,d,_⟩:=DataW.trod_string Tryz.underlying9 k;obtain ⟨u,e,_⟩:=DataW.trod_string Tryz.underlying9 l;obtain ⟨v,f,_,B⟩:=DataW.trod_int Tryz.underlying3 m;obtain ⟨y,g,_⟩:=DataW.trod_bool Tryz.underlying4 o;obtain ⟨z,i,_⟩:=DataW.trod_bool Tryz.underlying4 q;obtain ⟨A,j,_⟩:=DataW.trod_bool Tryz.underlying4 r;simp only [List.cons.injEq,and_true] at d e f g i j;subst d e f g i j;exact ⟨⟨s,u,v,y,z,A⟩,rfl,B⟩
theorem zun (n:Nat) (cs:List Value) (x:DataW H×List MemPlace) (h:DataW.trod enc Tryz.prog w base spare held n 31 cs=some x) (hl:cs.length=20) :
 ∃ q:ActQ,cs=actC q/\SlR w 10 opC q.call.1.ops q.call.2.1/\SlR w 1 strC q.call.1.keys q.call.2.2/\(Lit.int .i64 q.w.frm).wf=true/\(Lit.int .i64 q.id).wf=true:=by
 obtain ⟨y,b,_,_,_,c,a⟩:=DataW.trod_struct Tryz.underlying31 h
 match cs,hl with
 | [c0,c1,c2,c3,c4,c5,c6,c7,c8,c9,c10,c11,c12,c13,c14,c15,c16,c17,c18,c19],_ =>
   match y,c with
   | [y0,y1,y2,y3],_ =>
     have i:DataW.trod enc Tryz.prog w base spare held b 3 [c0]=some y0:=(by have:=a 0 _ rfl;simpa [Tryz.cells3] using this);have j:DataW.trod enc Tryz.prog w base spare held b 27 [c1,c2,c3,c4,c5,c6,c7,c8,c9,c10,c11,c12]=some y1:=(by have:=a 1 _ rfl;simpa [Tryz.cells3,Tryz.cells27] using this);have k:DataW.trod enc Tryz.prog w base spare held b 29 [c13,c14,c15,c16,c17,c18]=some y2:=(by have:=a 2 _ rfl;simpa [Tryz.cells3,Tryz.cells27,Tryz.cells29] using this);have l:DataW.trod enc Tryz.prog w base spare held b 3 [c19]=some y3:=(by have:=a 3 _ rfl;simpa [Tryz.cells3,Tryz.cells27,Tryz.cells29] using this);obtain ⟨r,d,_⟩:=DataW.trod_int Tryz.underlying3 i;obtain ⟨q,f,m,o⟩:=zum _ _ _ j rfl;obtain ⟨t,g,u⟩:=zsj _ _ _ k rfl;obtain ⟨s,e,_,v⟩:=DataW.trod_int Tryz.underlying3 l
     refine ⟨⟨r,q,t,s⟩,?_,m,o,u,v⟩;unfold actC;dsimp only;rw [<-f,<-g];simp only [List.cons.injEq,and_true] at d e;rw [d,e]
     rfl
theorem zuk {b0:Nat} {v:Value} {d:DataW H} {p:List MemPlace} (hv:Value.okWide Tryz.prog w .any b0 29 v) (h:DataW.Trod enc Tryz.prog w base spare held 29 v d p):∃ t:Wt,v=wtV t/\(Lit.int .i64 t.frm).wf=true:=by
 obtain ⟨cs,rfl,a⟩:=okWide_struct Tryz.underlying29 hv;obtain ⟨l⟩:=cs;obtain ⟨fuel,e⟩:=h;obtain ⟨t,b,c⟩:=zsj _ _ _ e (by have:=a.trans Tryz.cells29;simpa [Value.cells] using this);refine ⟨t,?_,c⟩;simp only [Value.cells] at b;rw [b]
 rfl
theorem zic {b0:Nat} {v:Value} {d:DataW H} {p:List MemPlace} (hv:Value.okWide Tryz.prog w .any b0 33 v) (h:DataW.Trod enc Tryz.prog w base spare held 33 v d p):∃ l,ActR w v l:=by
 obtain ⟨a,len,cap,rfl⟩:=okWide_slice Tryz.underlying33 hv;obtain ⟨fuel,E⟩:=h;simp only [Value.cells] at E;rcases open_slice Tryz.underlying33 E with ⟨k,_⟩ | ⟨a,c,f,m,n,D,P,k,Q,R,N,A,S,J⟩
 · simp only [List.cons.injEq,and_true] at k
   rw [k];exact ⟨[],⟨SlR.nil _ _ _,by simp,by simp,by simp,by simp⟩⟩
 simp only [List.cons.injEq,and_true] at k
 rw [k];have M:c<=m:=(by rw [A];split <;> omega)
 obtain ⟨L,s,b⟩:=zng (fun i (y:ActQ)=>(∀ j,j<20->w.cell? ((a.add (i * 20)).add j)=(actC y)[j]?)/\SlR w 10 opC y.call.1.ops y.call.2.1/\SlR w 1 strC y.call.1.keys y.call.2.2/\(Lit.int .i64 y.w.frm).wf=true/\(Lit.int .i64 y.id).wf=true) c fun i him=>by
  obtain ⟨G,C,O⟩:=J i (by omega);rw [Tryz.cells31] at C;obtain ⟨_,x,t⟩:=World.cells?_some C;obtain ⟨y,rfl,e⟩:=zun _ _ _ O x;exact ⟨y,t,e⟩
 refine ⟨L,⟨⟨some a,f,by rw [s],by omega,N,fun hp=>?_⟩,fun i q hq=>(b i q hq).2.1,fun i q hq=>(b i q hq).2.2.1,fun i q hq=>(b i q hq).2.2.2.1,fun i q hq=>(b i q hq).2.2.2.2⟩⟩;obtain ⟨g,o,F⟩:=a
 have I:F=none:=by
  obtain ⟨r,B⟩:∃ r,L[0]?=some r:=⟨_,List.getElem?_eq_getElem hp⟩;have:=(b 0 r B).1 0 (by decide);have z:0<(actC r).length:=(by rw [zam];decide);rw [Nat.zero_mul] at this;simp only [Addr.add,if_true] at this;rw [List.getElem?_eq_getElem z] at this;unfold World.cell? at this
  cases F with
  | none=>rfl
  | some q =>
    simp only [Option.isSome_some,if_true] at this
    split at this <;> simp at this
 subst I;refine ⟨g,o,rfl,fun i y hy j u hu'=>?_⟩
 have K:j<20:=by
  have:=(List.getElem?_eq_some_iff.1 hu').1
  rwa [zam] at this
 have:=(b i y hy).1 j K;rw [hu'] at this;rw [<-this]
 congr 1
 unfold Addr.add;by_cases e:i * 20=0
 · by_cases h2:j=0
   · simp [e,h2]
   simp [e,h2]
 by_cases h2:j=0
 · simp [e,h2]
 simp [e,h2]
end
end Go.Proofs.YtdgkdfmfoonbpaaGreat