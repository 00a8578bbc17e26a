/- Own lemmas. -/
import Derived.Test.YtdgkdfmfoonbpaaGreatR27
import Derived.Test.YtdgkdfmfoonbpaaGreatR30
import Derived.Test.YtdgkdfmfoonbpaaGreatR26
import Derived.Test.YtdgkdfmfoonbpaaGreatR28
import Derived.Great.BuildSlice
import Derived.Deep.DeepCutAuto
namespace Go.Proofs.YtdgkdfmfoonbpaaGreat
open Go Go.Proofs Go.RowKit
set_option maxRecDepth 100000
theorem zwm (x:Ev) (z:Value) (hz:z=.agg #[.int .i64 0,.string ByteArray.empty,.string ByteArray.empty,.int .i64 0,.int .i64 0,.int .i64 0,.int .i64 0,.string ByteArray.empty,.string ByteArray.empty,.int .i64 0,.int .i64 0,.int .i64 0,.int .i64 0]) :
 Instr.fill (fun i=>some (i * 13,13)) ((Array.range (1 * 13)).map (z.cells[· % z.cells.size]!)) [(0,Value.agg (evC x).toArray)]=some (evC x).toArray:=by
 subst hz;obtain ⟨a,⟨b,c,d,e,f,g⟩,⟨j,k,l,m,n,o⟩⟩:=x
 kernel_rfl
theorem ziy {ops:Array Oper} {rest:List Oper} {o:Oper} {a:Act} {w:World} {Q:Exit->Act->World->Prop} (hg:o.guard=none) (x:Operand) (ho:o.op=.buildSlice 41 1 #[(0,x)]) (q:Ev) (hx:a.eval x=.agg (evC q).toArray)
 (h:wpList Tryz.prog ops Q rest (a.put o.dst (.slice (some ⟨w.heap.size,0,none⟩) 1 1)) (w.alloc (.cells (evC q).toArray 72))):wpList Tryz.prog ops Q (o :: rest) a w:=by
 cases hie:Tryz.prog.info? 72 with
 | none=>have:=info72;rw [hie] at this;cases this
 | some ie =>
   have b:=info72;rw [hie] at b;simp only [Option.map_some,Option.some.injEq,Prod.mk.injEq] at b;obtain ⟨d,c,_⟩:=b;refine wpList_buildSlice hg 41 72 1 #[(0,x)] ho _ ie _ Tryz.underlying41 hie d (by rw [c];decide) (by rw [c];decide) ?_ h;rw [c];have e:(#[((0:Nat),x)].map fun (i,x)=>(i,a.eval x)).toList = [(0,Value.agg (evC q).toArray)]:=(by simp [hx]);rw [e];exact zwm q _ rfl
theorem info72l (x:Ev):(Tryz.prog.info? 72).map (·.size)=some (evC x).length:=by rw [zaa];kernel_rfl
theorem row72:(Tryz.prog.underlying 72).map TypeDesc.isRow=some true:=by kernel_rfl
theorem zpg (x:Ev):∀ u∈evC x,u.oneCell'=true:=by
 intro u a;simp [evC,kvC] at a;rcases a with h | h | h | h | h | h | h | h | h | h | h | h | h <;> (rw [h];rfl)
theorem zrn {rev:Int} {l:List Ev} {i:Nat} {x:Ev} (h:l[i]?=some x):upto rev (l.take (i+1))=if x.kv.mod<=rev then upto rev (l.take i)++[x] else upto rev (l.take i):=by
 unfold upto;rw [List.take_add_one,h,List.filter_append];by_cases hx:x.kv.mod<=rev <;> simp [hx]
theorem SlR.of_add {α:Type} {f:α->List Value} {w:World} {sz g o cap:Nat} {L:List α} (hf:∀ x,(f x).length=sz) (h:SlR w sz f (.slice (some ⟨g,o,none⟩) L.length cap) L) (i j:Nat) {x:α} (hx:L[i]?=some x) {u:Value} (hu:(f x)[j]?=some u):w.cell? ⟨g,o+i * sz+j,none⟩=some u :=
 h.rangeAt hf i hx j u hu
set_option maxHeartbeats 4000000 in
theorem zfd (w:World) (v:Value) (l:List Ev) (rev:Int) (hv:SlR w 13 evC v l) (hl:l.length<=2300000000) :
 Calls Tryz.prog 25 #[v,.int .i64 rev] w fun e w'=>∃ v',e=.returned v'/\SlF w' 72 13 evC v' (upto rev l)/\Fr No w w'/\(∀ b,v'.ownBlock=some b->w.heap.size<=b):=by
 obtain ⟨a,cap,rfl,Q,J,D⟩:=hv.shape;obtain ⟨N,s,y,z,A⟩:=info_parts info72;have G:=H_ hv;have F:=H_ D;unfold maxLen at J;clear hv D;go_enter Tryz.func25,Tryz.ntmps25;go_wp2_with fail
 go_loopg [5,6] l.length (fun g s5 s6 wr=>∃ (i:Nat) (O:List Ev),s6=.int .i64 i/\i+g=l.length/\Hid (O=upto rev (l.take i))/\Hid (SlF wr 72 13 evC s5 O)/\Hid (Fr No w wr)/\Hid (∀ b,s5.ownBlock=some b->w.heap.size<=b))
 case atStart=>exact ⟨0,[],rfl,by omega,H_ (by simp [upto]),H_ (SlF.nil _ _ _ _),H_ (Fr.refl _ _),H_ (by simp [Value.ownBlock])⟩
 case round =>
  obtain ⟨i,O,rfl,R,j,o,m,n⟩:=hrel
  cases gk with
  | zero =>
    have t:¬ (i:Int)<(l.length:Int):=(by omega);have u:l.take i=l:=List.take_of_length_le (by omega);rw [u] at j;go_wp2;go_ret;exact ⟨_,rfl,by rw [<-j.out];exact o.out,m.out,n.out⟩
  | succ g =>
    have t:(i:Int)<(l.length:Int):=(by omega);have M:IntKind.i64.wrap ((i:Int)+1)=i+1:=(by rw [IntKind.wrap_i64];omega);obtain ⟨C,E,rfl⟩:=F.out (by omega);obtain ⟨x,f⟩:∃ x,l[i]?=some x:=⟨_,List.getElem?_eq_getElem (by omega)⟩;have d:=G.out.fr0 m.out;have I:wr.cell? ⟨C,E+i * 13+1+3,none⟩=some (.int .i64 x.kv.mod):=d.of_add zaa i 4 f rfl;have H:=H_ (d.rangeAt zaa i f);have S:=World.block_lt_of_cell? _ _ I;have c:=H_ (zrn (rev:=rev) f);have k:Hid (O.length<=2300000000):=H_ (by rw [j.out];exact Nat.le_trans (List.length_filter_le _ _) (Nat.le_trans (List.length_take_le _ _) (by omega)));clear f d;by_cases hle:x.kv.mod<=rev
    · rw [if_pos hle] at c
      go_wp2_with (first
       | (with_reducible show wpList _ _ _ ({ dst:=some 25,op:=_,type:=_,pos:=_,after:=_,guard:=_ } :: _) _ _
          refine zan rfl 72 _ rfl C (E+i * 13) rfl (evC x) H.out row72 (info72l x) ?_)
       | (with_reducible show wpList _ _ _ ({ dst:=some 26,op:=_,type:=_,pos:=_,after:=_,guard:=_ } :: _) _ _
          refine ziy rfl _ rfl x rfl ?_)
       | (with_reducible show wpList _ _ _ ({ dst:=some 27,op:=_,type:=_,pos:=_,after:=_,guard:=_ } :: _) _ _
          refine zgm rfl _ _ 41 rfl 72 N _ 13 136 Tryz.underlying41 s y z A rfl (by decide) _ O rfl (o.out.alloc _) w n.out (m.out.alloc _) wr.heap.size 1 x rfl (zav wr (evC x) 72 (0,0)) rfl (zpg x) (by have:=k.out;unfold maxLen;omega) (by have:=k.out;omega) ?_;rintro P T B U r K q L))
      go_roundg g
      case rel=>exact ⟨i+1,O++[x],by go_num,by omega,H_ (by rw [c.out,j.out]),H_ (by simpa using r),H_ q,H_ (by intro x f;simp [Value.ownBlock] at f;omega)⟩
      case measure=>omega
    rw [if_neg hle] at c
    go_wp2;go_roundg g
    case rel=>exact ⟨i+1,O,by go_num,by omega,H_ (by rw [c.out,j.out]),o,m,n⟩
    case measure=>omega
theorem Told.new:Told newD []:=⟨fun r h1 _ h3=>by have:r<=0:=h3;omega,fun e he=>by simp at he,List.Pairwise.nil⟩
theorem Told.cut {D:Doc} {all:List Ev} (h:Told D all) {R:Int} (h1:D.mark<=R) (_h2:R<=D.rev):Told (D.cut R) all where
 he:=fun r a1 a2 a3=>by
  have b2:R<=r:=a2;have b3:r<=D.rev:=a3;rw [<-h.he r a1 (by omega) b3]
  show ((D.events.filter fun e=>decide (R<=e.kv.mod)&&decide (e.kv.mod<=D.rev)).filter fun e=>decide (e.kv.mod=r))=_
  rw [List.filter_filter];refine List.filter_congr fun e _=>?_;by_cases hr:e.kv.mod=r
  · have c1:decide (R<=e.kv.mod)=true:=decide_eq_true (by omega)
    have c2:decide (e.kv.mod<=D.rev)=true:=decide_eq_true (by omega);rw [c1,c2];simp
  rw [decide_eq_false hr]
  simp
 lo:=h.lo
 up:=h.up
theorem Told.adds {D:Doc} {all:List Ev} (h:Told D all) (hlo:∀ e∈D.events,e.kv.mod<=D.rev) (hm0:0<=D.mark) (hm1:D.mark<=D.rev) {E:List Ev} (hE:E≠[]) (hm:∀ e∈E,e.kv.mod=D.rev+1) :
 (D.adds E).rev=D.rev+1/\zax (D.adds E) (D.rev+1) (D.rev+1)=0/\evsAt (D.adds E) (D.rev+1)=E/\Told (D.adds E) (all++E):=by
 obtain ⟨l,n,m⟩:=Doc.adds_parts D E;have i:(D.adds E).rev=D.rev+1:=by rw [Doc.adds_rev D E _ hm,if_neg hE]
 have f:zax (D.adds E) (D.rev+1) (D.rev+1)=0:=zfr (by omega) (by rw [l];omega) (by rw [i];omega);have c:(D.events.filter fun e=>decide (e.kv.mod=D.rev+1)) = []:=List.filter_eq_nil_iff.2 fun e he=>by have:=hlo e he;simp;omega
 have g:(E.filter fun e=>decide (e.kv.mod=D.rev+1))=E:=List.filter_eq_self.2 fun e he=>by simp [hm e he]
 refine ⟨i,f,?_,fun r a1 a2 a3=>?_,fun e he=>?_,?_⟩
 · unfold evsAt
   rw [if_pos f,m,List.filter_append,c,g,List.nil_append]
 · rw [m,List.filter_append,List.filter_append]
   rw [l] at a2;rw [i] at a3;by_cases hrr:r<=D.rev
   · rw [h.he r a1 a2 hrr]
   have k:r=D.rev+1:=by omega
   subst k;have d:(all.filter fun e=>decide (e.kv.mod=D.rev+1)) = []:=List.filter_eq_nil_iff.2 fun e he=>by have:=h.lo e he;simp;omega
   rw [c,d]
 · rw [i]
   rcases List.mem_append.1 he with j | j
   · have:=h.lo e j;omega
   rw [hm e j];omega
 unfold ModUp
 rw [List.pairwise_append];refine ⟨h.up,?_,fun a ha b hb=>?_⟩
 · exact List.Pairwise.imp_of_mem (R:=fun _ _=>True) (fun {a b} ha hb _=>by rw [hm a ha,hm b hb];exact Int.le_refl _) (List.pairwise_of_forall fun _ _=>trivial)
 have:=h.lo a ha
 rw [hm b hb];omega
def evsD (D D':Doc) (all:List Ev):List Ev:=if D.rev<D'.rev then all++evsAt D' D'.rev else all
theorem Told.does {k:Nat} {S:St} {D:Doc} (h:Good k S D) (hk:k<=200) {q:CalQ} (hq:fewCal q=true) {all:List Ev} (ht:Told D all) :
 Told (doD S D q) (evsD D (doD S D q) all)/\(D.rev<(doD S D q).rev->(doD S D q).rev=D.rev+1/\zax (doD S D q) (doD S D q).rev (doD S D q).rev=0/\∀ e∈evsAt (doD S D q) (doD S D q).rev,e.kv.mod=D.rev+1)/\D.rev<=(doD S D q).rev:=by
 obtain ⟨r,u,s,v,w⟩:=zgd hq;have d:=h.cpl.m0;have g:∀ e∈D.events,e.kv.mod<=D.rev:=fun e f=>(h.doc.lo e f).2.2
 have b:∀ D':Doc,D'.rev=D.rev->Told D' all->Told D' (evsD D D' all)/\(D.rev<D'.rev->D'.rev=D.rev+1/\zax D' D'.rev D'.rev=0/\∀ e∈evsAt D' D'.rev,e.kv.mod=D.rev+1)/\D.rev<=D'.rev:=fun D' hr h1=>by
  unfold evsD;rw [if_neg (by omega)];exact ⟨h1,fun h2=>by omega,by omega⟩
 have adds:∀ E:List Ev,(∀ e∈E,e.kv.mod=D.rev+1)->Told (D.adds E) (evsD D (D.adds E) all)/\(D.rev<(D.adds E).rev->(D.adds E).rev=D.rev+1/\zax (D.adds E) (D.adds E).rev (D.adds E).rev=0/\∀ e∈evsAt (D.adds E) (D.adds E).rev,e.kv.mod=D.rev+1)/\D.rev<=(D.adds E).rev:=fun E hE=>by
  by_cases hn:E = []
  · subst hn
    exact b _ rfl ht
  obtain ⟨i,j,l,m⟩:=ht.adds g d.1 d.2 hn hE
  unfold evsD;rw [i,if_pos (by omega),l];exact ⟨m,fun _=>⟨rfl,j,hE⟩,by omega⟩
 unfold doD;by_cases h4:kindN q.1.kind=4
 · rw [if_pos h4];exact b _ rfl ht
 rw [if_neg h4]
 by_cases h5:kindN q.1.kind=5
 · rw [if_pos h5]
   split
   · rename_i hc
     rw [h.compactDoc] at hc;unfold zis at hc
     split at hc
     · cases hc
     split at hc
     · cases hc
     exact b _ rfl (ht.cut (by omega) (by omega))
   exact b _ rfl ht
 rw [if_neg h5]
 by_cases h6:kindN q.1.kind=6
 · rw [if_pos h6];exact b _ rfl ht
 rw [if_neg h6]
 by_cases h7:kindN q.1.kind=7
 · rw [if_pos h7]
   obtain ⟨a,_⟩:=h.drops hk q.2.2 s q.2.2.length (Nat.le_refl _);have f:dropTo (D.rev+1) S q.2.2 q.2.2.length=q.2.2.foldl (dropR (D.rev+1)) (S,[]):=(by unfold dropTo;rw [List.take_length]);rw [f] at a;have:=adds _ a.mods;unfold dropD
   first | exact this | (rw [h.rev];exact this)
 rw [if_neg h7]
 by_cases ha:applyE S q.2.1=0
 · rw [if_pos ha]
   have c:∀ o∈q.2.1,o.rg.key.size<=1099511627776:=fun o ho=>by have:=(r o ho).1;omega
   obtain ⟨n,t⟩:=zbu ha;obtain ⟨⟨a,_⟩,_⟩:=h.runs hk n c q.2.1.length (Nat.le_refl _);rw [List.take_length] at a;have:=adds _ a.mods;unfold applyD
   first | exact this | (rw [h.rev];exact this)
 rw [if_neg ha];exact b _ rfl ht
structure SeenR (w:World) (x:Nat) (av gv:Value) (all got:List Ev) (rev:Int) (ended:Bool):Prop where
 obj:w.heap[x]?=some (.cells #[av,gv,.int .i64 rev,.bool ended,.bool false] 56 (0,0))
 sa:SlF w 72 13 evC av all
 sg:SlF w 72 13 evC gv got
 d1:av.ownBlock≠some x
 d2:gv.ownBlock≠some x
 d3:∀ b,av.ownBlock=some b->gv.ownBlock≠some b
def seenF (x:Nat) (av gv:Value) (b:Nat):Prop:=b=x\/av.ownBlock=some b\/gv.ownBlock=some b
def SeenAt (w:World) (x:Nat) (all got:List Ev) (rev:Int) (ended:Bool) (X:Nat->Prop):Prop:=∃ av gv,SeenR w x av gv all got rev ended/\∀ b,X b↔seenF x av gv b
section
variable {w w':World} {x:Nat} {av gv:Value} {all got:List Ev} {rev:Int} {ended:Bool}
theorem SeenR.lt (a:SeenR w x av gv all got rev ended):∀ b,seenF x av gv b->b<w.heap.size:=by
 rintro b (rfl | h | h)
 · exact zac a.obj
 · exact a.sa.lt b h
 exact a.sg.lt b h
theorem SeenR.fr {Y:Nat->Prop} (a:SeenR w x av gv all got rev ended) (hf:Fr Y w w') (hn:∀ b,seenF x av gv b->¬ Y b):SeenR w' x av gv all got rev ended :=
 { a with obj:=hf.heap a.obj (hn x (.inl rfl)),sa:=a.sa.fr hf fun b hb=>hn b (.inr (.inl hb)),sg:=a.sg.fr hf fun b hb=>hn b (.inr (.inr hb)) }
theorem SeenR.fr0 (a:SeenR w x av gv all got rev ended) (hf:Fr No w w'):SeenR w' x av gv all got rev ended:=a.fr hf fun _ _ h=>h
theorem SeenAt.lt {X:Nat->Prop} (a:SeenAt w x all got rev ended X):∀ b,X b->b<w.heap.size:=by
 obtain ⟨d,e,a,c⟩:=a;exact fun b hb=>a.lt b ((c b).1 hb)
theorem SeenAt.fr {X Y:Nat->Prop} (a:SeenAt w x all got rev ended X) (hf:Fr Y w w') (hn:∀ b,X b->¬ Y b):SeenAt w' x all got rev ended X:=by
 obtain ⟨d,e,a,c⟩:=a;exact ⟨d,e,a.fr hf fun b hb=>hn b ((c b).2 hb),c⟩
theorem SeenAt.fr0 {X:Nat->Prop} (a:SeenAt w x all got rev ended X) (hf:Fr No w w'):SeenAt w' x all got rev ended X:=a.fr hf fun _ _ h=>h
end
theorem SeenR.put {w:World} {x:Nat} {av gv:Value} {all got:List Ev} {rev:Int} {ended:Bool} (a:SeenR w x av gv all got rev ended) (j:Nat) (u:Value) {rev':Int} {ended':Bool}
 (h:(#[av,gv,.int .i64 rev,.bool ended,.bool false]:Array Value).setIfInBounds j u=#[av,gv,.int .i64 rev',.bool ended',.bool false]):SeenR (w.setCell ⟨x,j,none⟩ u) x av gv all got rev' ended'/\Fr (fun b=>b=x) w (w.setCell ⟨x,j,none⟩ u):=by
 have c:Fr (fun b=>b=x) w (w.setCell ⟨x,j,none⟩ u):=Fr.setCell (p:=⟨x,j,none⟩) (Fr.refl (fun b=>b=x) w) (.inl rfl) u;refine ⟨⟨?_,a.sa.fr c fun b hb e=>a.d1 (by rw [hb,e]),a.sg.fr c fun b hb e=>a.d2 (by rw [hb,e]),a.d1,a.d2,a.d3⟩,c⟩;rw [zab a.obj j u,h]
def SeenTo (TA:zai) (w w':World) (h s x k:Nat) (S:St) (D:Doc) (H:Hb) (all got:List Ev) (rev:Int) (ended:Bool) (B X B' X':Nat->Prop):Prop :=
 Both TA w' h s k k S D H B'/\SeenAt w' x all got rev ended X'/\Fr (fun b=>B b\/X b) w w'/\(∀ b,B' b->B b\/w.heap.size<=b)/\(∀ b,X' b->X b\/w.heap.size<=b)/\(∀ b,X' b->¬ B' b)
theorem Both.store {TA:zai} {w:World} {h s k n:Nat} {S:St} {D:Doc} {H:Hb} {B:Nat->Prop} (a:Both TA w h s k n S D H B):∃ G,zal TA w s S G:=by
 obtain ⟨_,F,G,_,b,_⟩:=a;exact ⟨G,b⟩
theorem Both.evs {TA:zai} (hT:TreeOk TA 1000000) {w:World} {h s k n:Nat} {S:St} {D:Doc} {H:Hb} {B:Nat->Prop} (a:Both TA w h s k n S D H B) (hk:k<=200) (r:Int) :
 Calls Tryz.prog 42 #[.pointer (some ⟨s,0,none⟩),.int .i64 r,.int .i64 r] w fun e w'=>∃ v,e=.returned (.tuple #[v,.int .i64 (zax D r r)])/\SlF w' 72 13 evC v (evsAt D r)/\Fr No w w'/\(∀ b,v.ownBlock=some b->w.heap.size<=b):=by
 obtain ⟨g,i,f,j⟩:=a.p.sizes hk;obtain ⟨G,d⟩:=a.store;have c:=zcy hT w s S G d (by omega) f r r;rw [zkp a.p.good r,(a.p.good.eventsDoc r r).1] at c;exact c
set_option maxHeartbeats 8000000 in
theorem zpq {TA:zai} (hT:TreeOk TA 1000000) {w0 w:World} {h s x k:Nat} {S:St} {D:Doc} {H:Hb} {B X:Nat->Prop} {q:ActQ} {all got:List Ev} {rev:Int} {ended:Bool} (hF:ActF TA w0 w h s k S D H B q) (hb:Both TA w h s k k S D H B) (hk:k<=199) (hq:fewCal q.call=true)
 (hx:SeenAt w x all got rev ended X) (hd:∀ b,X b->¬ B b) (ht:Told D all) (hlen:all.length<=2300000000) :
 Calls Tryz.prog 22 #[.pointer (some ⟨x,0,none⟩),.pointer (some ⟨s,0,none⟩),.pointer (some ⟨h,0,none⟩),.agg (actC q).toArray] w fun e w'=>e=.returned (.tuple #[])/\∃ B' X',
  SeenTo TA w w' h s x (k+1) (if kindN q.kind<=2 then doT S q.call else S) (if kindN q.kind<=2 then doD S D q.call else D) (if kindN q.kind=3 then feedH D H else H) (if kindN q.kind<=2 then evsD D (doD S D q.call) all else all) got rev ended B X B' X':=by
 have d:=H_ (zae w (.cells (actC q).toArray 31) _ rfl);have G:Hid (Fr No w (w.alloc (.cells (actC q).toArray 31))):=H_ ((Fr.refl No w).alloc _);have u:=H_ fun W=>zew W q;have bg:=zea q.kind;have Z:=H_ hF;have F:=H_ hb;have r:=H_ hx;have HD:=H_ hd;have HT:=H_ ht;have HQ:=H_ hq;clear hF hb hx hd ht hq;have o:Hid (∀ w',Fr No w w'->SeenTo TA w w' h s x (k+1) S D H all got rev ended B X B X):=H_ fun w' hf=>⟨(F.out.fr0 hT hf).mono (by omega) (by omega),r.out.fr0 hf,hf.mono fun _ _ h=>h.elim,fun _ h=>.inl h,fun _ h=>.inl h,HD.out⟩;generalize kindN q.kind=kk at *;by_cases k3:kk=3
 · subst k3
   have aF:¬ (3:Int)<=2:=(by decide);simp only [if_neg aF,if_pos];go_enter Tryz.func22,Tryz.ntmps22;go_upto_region 1 with fail;generalize w.alloc (.cells (actC q).toArray 31)=W1 at *;have lb:=zac d.out
   go_wp2_with (first
    | (with_reducible show wpList _ _ _ ({ dst:=some 11,op:=_,type:=_,pos:=_,after:=_,guard:=_ } :: _) _ _
       refine zan rfl 31 _ rfl w.heap.size 0 rfl (actC q) (ActAt.of d.out).all row31 (info31l q) ?_)
    | (go_at_call 20;(with_reducible refine (u.out _).mono ?_);rintro e w2 ⟨rfl,g⟩;have c:=H_ (G.out.trans0 g);clear g)
    | (go_at_call 13;(with_reducible refine (Z.out.feed _ c.out).mono ?_);rintro e w3 ⟨rfl,B3,f⟩))
   have hz:=c.out.size
   first | exact bodyPost_ret (results_none rfl _ _ _) rfl ⟨rfl,B3,X,f.1,(r.out.fr0 c.out).fr f.2.1 HD.out,(c.out.mono fun _ _ h=>h.elim).trans f.2.1 fun b _ hb=>.inl hb,fun b hb=>(f.2.2.1 b hb).imp id fun h=>by omega,fun b hb=>.inl hb,fun b hb hx=>(f.2.2.1 b hx).elim (HD.out b hb) fun h=>by have:=r.out.lt b hb;omega⟩ | exact bodyPost_end (results_none rfl _ _ _) rfl ⟨rfl,B3,X,f.1,(r.out.fr0 c.out).fr f.2.1 HD.out,(c.out.mono fun _ _ h=>h.elim).trans f.2.1 fun b _ hb=>.inl hb,fun b hb=>(f.2.2.1 b hb).imp id fun h=>by omega,fun b hb=>.inl hb,fun b hb hx=>(f.2.2.1 b hx).elim (HD.out b hb) fun h=>by have:=r.out.lt b hb;omega⟩
 by_cases k2:kk<=2
 · simp only [if_neg k3,if_pos k2]
   obtain ⟨t1,t2,t3⟩:=Told.does F.out.p.good (by omega) HQ.out HT.out;have r1:=F.out.p.good.rev;have g2:=F.out.p.good.does (by omega) HQ.out;have r2:=g2.rev;have el:=zgf g2 (doD S D q.call).rev;have ev:=g2.ok.ev;have aj:evsD D (doD S D q.call) all=if D.rev<(doD S D q.call).rev then all++evsAt (doD S D q.call) (doD S D q.call).rev else all:=rfl;have a3:=H_ fun W n (b:Both TA W h s n n S D H B)=>b.revC;have I:=H_ fun W n B' (b:Both TA W h s n n (doT S q.call) (doD S D q.call) H B')=>b.revC;have U:=H_ fun W B' (b:Both TA W h s (k+1) (k+1) (doT S q.call) (doD S D q.call) H B')=>b.evs hT (by omega) (doD S D q.call).rev;have ad:=H_ Z.out.does;rw [r1] at a3;rw [r2] at I;generalize doT S q.call=S' at *;generalize doD S D q.call=M at *;rw [aj];generalize doE S q.call=de at *
   generalize V:(if D.rev<M.rev then all++evsAt M M.rev else all)=aU at *;have i:=H_ V;clear aj t1 r1 r2 g2 Z HQ o V;have aM:¬ kk > 2:=(by omega);have T2:=H_ t2;clear t2;obtain ⟨i0,aE,aJ,aK,aL⟩:=info_parts info72;go_enter Tryz.func22,Tryz.ntmps22;go_upto_region 1 with fail;generalize w.alloc (.cells (actC q).toArray 31)=W1 at *;have lb:=zac d.out
   go_upto_region 3 with (first
    | (with_reducible show wpList _ _ _ ({ dst:=some 11,op:=_,type:=_,pos:=_,after:=_,guard:=_ } :: _) _ _
       refine zan rfl 31 _ rfl w.heap.size 0 rfl (actC q) (ActAt.of d.out).all row31 (info31l q) ?_)
    | (go_at_call 20;(with_reducible refine (u.out _).mono ?_);rintro e w2 ⟨rfl,g⟩))
   have l:=H_ (g.heap d.out fun h=>h);have c:=H_ (G.out.trans0 g);have ap:=zac l.out;clear g d G lb
   go_upto_region 4 with (first
    | (with_reducible show wpList _ _ _ ({ dst:=some 16,op:=_,type:=_,pos:=_,after:=_,guard:=_ } :: _) _ _
       refine zan rfl 31 _ rfl w.heap.size 0 rfl (actC q) (ActAt.of l.out).all row31 (info31l q) ?_)
    | (go_at_call 20;(with_reducible refine (u.out _).mono ?_);rintro e w3 ⟨rfl,y⟩))
   have a0:=H_ (y.heap l.out fun h=>h);have m:=H_ (c.out.trans0 y);have aN:=zac a0.out;clear y l c ap u
   go_upto_region 6 with (first
    | (go_at_call 40;(with_reducible refine (a3.out _ _ (F.out.fr0 hT m.out)).mono ?_);rintro e bn ⟨rfl,rfl⟩)
    | (with_reducible show wpList _ _ _ ({ dst:=some 23,op:=_,type:=_,pos:=_,after:=_,guard:=_ } :: _) _ _
       refine zan rfl 27 _ rfl w.heap.size 1 rfl (calC q.call) (ActAt.of a0.out).call row27 (info27l q.call) ?_)
    | (go_at_call 27;(with_reducible refine (ad.out w3 m.out).mono ?_);rintro e w4 ⟨rfl,B4,v⟩))
   have j:Hid (Both TA w4 h s (k+1) (k+1) S' M H B4):=H_ v.1;have Q:=H_ ((r.out.fr0 m.out).fr v.2.1 HD.out);have O:Hid (Fr (fun b=>B b\/X b) w w4):=H_ ((m.out.mono fun _ _ h=>h.elim).trans v.2.1 fun b _ hb=>.inl hb);have a2:Hid (∀ b,B4 b->B b\/w.heap.size<=b):=H_ fun b hb=>(v.2.2.1 b hb).imp (fun h=>h) fun h=>by have:=m.out.size;omega
   have N:Hid (∀ b,X b->¬ B4 b):=H_ fun b hb hx=>(v.2.2.1 b hx).elim (HD.out b hb) fun h=>by have:=(r.out.fr0 m.out).lt b hb;omega
   clear v m a0 aN ad a3;by_cases hup:D.rev<M.rev
   · rw [if_pos hup] at i
     have ao:M.rev > D.rev:=hup;obtain ⟨e1,e2,e3⟩:=T2.out hup;rw [e2] at U;generalize evsAt M M.rev=E at *;generalize M.rev=r' at *;clear e1 e2 e3 T2 hup;obtain ⟨av,gv,a7,ai⟩:=Q.out;obtain ⟨aa,ac,ha,bc,aC,_⟩:=a7.sa.shape;subst ha;have af:=H_ a7;have J:=H_ ai;unfold maxLen at aC;clear a7 ai Q
     go_upto_region 8 with (first
      | (go_at_call 40;(with_reducible refine (I.out _ _ _ j.out).mono ?_);rintro e aQ ⟨rfl,rfl⟩)
      | (go_at_call 42;(with_reducible refine (U.out _ _ j.out).mono ?_);rintro e w5 ⟨ba,rfl,a8,a5,aG⟩;obtain ⟨ea,ec,rfl,bd,be,_⟩:=a8.shape))
     have a:=H_ (af.out.fr0 a5);have az:=H_ a8;have ae:=H_ a5;have x0:w5.cell? ⟨x,0,none⟩=some (.slice aa all.length ac):=cellAt a.out.obj 0 rfl;have lx:=zac a.out.obj;clear a8 a5 af;go_upto_region 9 with (at_builtin;refine zdq rfl _ _ 41 rfl 72 i0 _ 13 136 Tryz.underlying41 aE aJ aK aL rfl (by decide) zaa (.slice aa all.length ac) (.slice ea E.length ec) all E (fun x _=>zgg x) rfl rfl a.out.sa az.out (by unfold maxLen;omega) (by omega) ?_;intro z C A Y am R t;have y0:=t.cell x0 a.out.d1;have z0:Y.frozen? ⟨x,0,none⟩=false:=by { have hh:=t.heap a.out.obj a.out.d1;unfold World.frozen?;rw [hh];simp };have aO:=zac (t.heap a.out.obj a.out.d1));have K:=t.heap a.out.obj a.out.d1
     have L:(Y.setCell ⟨x,0,none⟩ (.slice z C A)).heap[x]?=some (.cells #[.slice z C A,gv,.int .i64 rev,.bool ended,.bool false] 56 (0,0)):=by
      rw [zab K 0 _];simp
     have T:Fr (fun b=>b=x) Y (Y.setCell ⟨x,0,none⟩ (.slice z C A)):=Fr.setCell (p:=⟨x,0,none⟩) (Fr.refl (fun b=>b=x) Y) (.inl rfl) _;have a6:∀ b,(Value.slice z C A).ownBlock=some b->b≠x:=fun b hb e=>(R b hb).elim (fun h=>a.out.d1 (by rw [h,e])) fun h=>by omega
     have an:=am.fr T fun b hb e=>a6 b hb e;have ak:=(a.out.sg.fr t fun b hb e=>a.out.d3 b e hb).fr T fun b hb e=>a.out.d2 (by rw [hb,e]);have al:∀ b,(Value.slice z C A).ownBlock=some b->gv.ownBlock≠some b:=fun b hb hg=>(R b hb).elim (fun h=>a.out.d3 b h hg) fun h=>by have:=a.out.sg.lt b hg;omega
     have P:Hid (SeenR (Y.setCell ⟨x,0,none⟩ (.slice z C A)) x (.slice z C A) gv (all++E) got rev ended):=H_ ⟨L,an,ak,fun e=>a6 x e rfl,a.out.d2,al⟩;have a4:∀ b,(Value.slice aa all.length ac).ownBlock=some b->X b:=fun b hb=>(J.out b).2 (.inr (.inl hb));have aw:Hid (Fr X w5 (Y.setCell ⟨x,0,none⟩ (.slice z C A))):=H_ ((t.mono fun b _ hb=>a4 b hb).trans T fun b _ hb=>(J.out b).2 (.inl hb))
     have ax:Hid (∀ b,seenF x (.slice z C A) gv b->X b\/w5.heap.size<=b):=H_ fun b hb=>by
      rcases hb with h | h | h
      · exact .inl ((J.out b).2 (.inl h))
      · exact (R b h).imp (a4 b) fun h=>h
      exact .inl ((J.out b).2 (.inr (.inr h)))
     clear K L T a6 an ak al a4 am R t y0 z0 aO x0 lx aG;generalize Y.setCell ⟨x,0,none⟩ (.slice z C A)=W7 at *;have v4:W7.cell? ⟨x,4,none⟩=some (.bool false):=cellAt P.out.obj 4 rfl;have f4:W7.frozen? ⟨x,4,none⟩=false:=(by unfold World.frozen?;rw [P.out.obj];simp);have bl:=zac P.out.obj;go_wp2;obtain ⟨aH,aD⟩:=P.out.put 4 (.bool false) (rev':=rev) (ended':=ended) rfl;have aI:X x:=(J.out x).2 (.inl rfl);have bi:=ae.out.size;have ag:Fr X w4 (W7.setCell ⟨x,4,none⟩ (.bool false)):=((ae.out.mono fun _ _ h=>h.elim).trans aw.out fun _ _ h=>h).trans aD fun b _ e=>by have e':b=x:=e;rw [e'];exact aI
     have ah:∀ b,seenF x (.slice z C A) gv b->X b\/w4.heap.size<=b:=fun b hb=>(ax.out b hb).imp (fun h=>h) fun h=>by omega
     have bh:=O.out.size;exact bodyPost_end (results_none rfl _ _ _) rfl ⟨rfl,B4,seenF x (.slice z C A) gv,j.out.fr hT ag fun b hb hx=>N.out b hx hb,(by rw [<-i.out];exact ⟨_,_,aH,fun b=>Iff.rfl⟩),O.out.trans ag fun b _ hb=>.inr hb,a2.out,fun b hb=>(ah b hb).imp (fun h=>h) fun h=>by omega,fun b hb hx=>(ah b hb).elim (fun h=>N.out b h hx) fun h=>by have:=j.out.lt hT b hx;omega⟩
   rw [if_neg hup] at i
   have ao:¬ M.rev > D.rev:=hup;go_wp2_with (go_at_call 40;(with_reducible refine (I.out _ _ _ j.out).mono ?_);rintro e aQ ⟨rfl,rfl⟩)
   first | exact bodyPost_ret (results_none rfl _ _ _) rfl ⟨rfl,B4,X,j.out,(by rw [<-i.out];exact Q.out),O.out,a2.out,fun _ h=>.inl h,N.out⟩ | exact bodyPost_end (results_none rfl _ _ _) rfl ⟨rfl,B4,X,j.out,(by rw [<-i.out];exact Q.out),O.out,a2.out,fun _ h=>.inl h,N.out⟩
 simp only [if_neg k3,if_neg k2]
 have aM:kk > 2:=(by omega);go_enter Tryz.func22,Tryz.ntmps22;go_upto_region 1 with fail;generalize w.alloc (.cells (actC q).toArray 31)=W1 at *;have lb:=zac d.out
 go_upto_region 3 with (first
  | (with_reducible show wpList _ _ _ ({ dst:=some 11,op:=_,type:=_,pos:=_,after:=_,guard:=_ } :: _) _ _
     refine zan rfl 31 _ rfl w.heap.size 0 rfl (actC q) (ActAt.of d.out).all row31 (info31l q) ?_)
  | (go_at_call 20;(with_reducible refine (u.out _).mono ?_);rintro e w2 ⟨rfl,g⟩))
 have l:=H_ (g.heap d.out fun h=>h);have c:=H_ (G.out.trans0 g);have ap:=zac l.out;clear g d G lb
 go_wp2_with (first
  | (with_reducible show wpList _ _ _ ({ dst:=some 16,op:=_,type:=_,pos:=_,after:=_,guard:=_ } :: _) _ _
     refine zan rfl 31 _ rfl w.heap.size 0 rfl (actC q) (ActAt.of l.out).all row31 (info31l q) ?_)
  | (go_at_call 20;(with_reducible refine (u.out _).mono ?_);rintro e w3 ⟨rfl,y⟩))
 first | exact bodyPost_ret (results_none rfl _ _ _) rfl ⟨rfl,B,X,o.out _ (c.out.trans0 y)⟩ | exact bodyPost_end (results_none rfl _ _ _) rfl ⟨rfl,B,X,o.out _ (c.out.trans0 y)⟩
end Go.Proofs.YtdgkdfmfoonbpaaGreat