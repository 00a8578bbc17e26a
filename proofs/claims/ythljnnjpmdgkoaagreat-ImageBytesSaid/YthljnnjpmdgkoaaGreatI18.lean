/- Own lemmas. -/
import Derived.Test.YthljnnjpmdgkoaaGreatI17
import Derived.Test.YthljnnjpmdgkoaaGreatI15
import Derived.Test.YthljnnjpmdgkoaaGreatI14
import Derived.Test.YthljnnjpmdgkoaaGreatI00
import Derived.Shelf.Strings.BuilderK
namespace Go.Proofs.YthljnnjpmdgkoaaGreat
open Go Go.Proofs Go.RowKit
set_option maxRecDepth 100000
theorem info205:(Tryz.prog.info? 205).map (·.size)=some 2:=by kernel_rfl
theorem lies205:liesAt Tryz.prog Tryz.prog.depth 205 (2 / Tryz.prog.cellsOf 205) 0 205 1=true:=by kernel_rfl
theorem infoU8:(Tryz.prog.info? 5).map (fun i=>(i.zero,i.size,i.bytes))=some (some (.int .u8 0),1,1):=by kernel_rfl
theorem zlz (b:Nat) (w:World) (h0:w.cell? ⟨b,0,none⟩=some (.pointer (some ⟨b,0,none⟩))) :
 Calls Tryz.prog 166 #[.pointer (some ⟨b,0,none⟩)] w fun e w'=>e=.returned (.tuple #[])/\w'=w:=by
 obtain ⟨j,a,_⟩:=Option.map_eq_some_iff.1 info205;go_enter Tryz.func166,Tryz.ntmps166;go_wp2;rw [Lib.run_neq_ptr_same w _ Tryz.underlying203 a];go_wp2
 go_end0
 exact ⟨rfl,rfl⟩
theorem zle (b:Nat) (w:World) (h0:w.cell? ⟨b,0,none⟩=some (.pointer none)) (hsh:w.shape? b=some (205,2)) (hfz:w.frozen? ⟨b,0,none⟩=false) :
 Calls Tryz.prog 166 #[.pointer (some ⟨b,0,none⟩)] w fun e w'=>e=.returned (.tuple #[])/\w'=w.setCell ⟨b,0,none⟩ (.pointer (some ⟨b,0,none⟩)):=by
 obtain ⟨j,c,a⟩:=Option.map_eq_some_iff.1 info205;go_enter Tryz.func166,Tryz.ntmps166;go_wp2;rw [Lib.run_to_unsafe w ⟨b,0,none⟩ Tryz.underlying203 Tryz.underlying260 c (by rw [a];decide) hsh (Nat.zero_lt_succ 1)];simp only [Result.andThen];rw [Oper.upon_value];go_wp2;rw [run_callFunc_extern Tryz.func181 (by kernel_rfl) (by kernel_rfl) (by kernel_rfl) (e:=Extern.AbiNoEscape.same) (by kernel_rfl)];rw [Lib.run_noEscape];simp only [Result.andThen];rw [Oper.upon_value];go_wp2;rw [Lib.run_from_unsafe w ⟨b,0,none⟩ Tryz.underlying260 Tryz.underlying203 c hsh lies205];simp only [Result.andThen];rw [Oper.upon_value];go_wp2
 go_end0
 exact ⟨rfl,rfl⟩
def BdAt (w:World) (b:Nat) (bs:List Value) (v:Value):Prop :=
 ∃ p,(p=.pointer none\/p=.pointer (some ⟨b,0,none⟩))/\w.heap[b]?=some (.cells #[p,v] 205 (0,0))/\w.ownsRowF 0 5 1 v bs.length bs/\v.ownBlock≠some b
theorem zew {w w':World} {S:Nat->Prop} {v:Value} {n:Nat} {xs:List Value} (h:w.ownsRowF 0 5 1 v n xs) (hf:Fr S w w') (hn:∀ b,v.ownBlock=some b->¬ S b):w'.ownsRowF 0 5 1 v n xs:=by
 refine ⟨h.1,?_⟩;rcases h.2 with e | ⟨g,cap,c,d,rfl,f,i,a⟩
 · exact .inl e
 exact .inr ⟨g,cap,c,d,rfl,f,hf.heap i (hn g rfl),a⟩
theorem BdAt.fr {w w':World} {S:Nat->Prop} {b:Nat} {bs:List Value} {v:Value} (h:BdAt w b bs v) (hf:Fr S w w') (hb:¬ S b) (hn:∀ x,v.ownBlock=some x->¬ S x):BdAt w' b bs v:=by
 obtain ⟨p,a,c,d,e⟩:=h;exact ⟨p,a,hf.heap c hb,zew d hf hn,e⟩
theorem BdAt.lt {w:World} {b:Nat} {bs:List Value} {v:Value} (h:BdAt w b bs v):b<w.heap.size/\∀ x,v.ownBlock=some x->x<w.heap.size:=by
 obtain ⟨p,d,a,c,e⟩:=h;exact ⟨zab a,fun x hx=>(c.lt x hx).2⟩
theorem zgb (w:World) (b:Nat) (bs:List Value) (v:Value) (h:BdAt w b bs v) :
 Calls Tryz.prog 166 #[.pointer (some ⟨b,0,none⟩)] w fun e w'=>e=.returned (.tuple #[])/\w'.heap[b]?=some (.cells #[.pointer (some ⟨b,0,none⟩),v] 205 (0,0))/\w'.ownsRowF 0 5 1 v bs.length bs/\v.ownBlock≠some b/\Fr (fun x=>x=b) w w':=by
 obtain ⟨p,g,a,d,c⟩:=h;rcases g with rfl | rfl
 · refine (zle b w (cellAt a 0 rfl) (by simp [World.shape?,a]) (by unfold World.frozen?;rw [a];rfl)).mono ?_
   rintro e w' ⟨rfl,rfl⟩;have f:Fr (fun x=>x=b) w (w.setCell ⟨b,0,none⟩ (.pointer (some ⟨b,0,none⟩))):=(Fr.refl _ w).setAt 0 _;exact ⟨rfl,by rw [zaa a];rfl,zew d f fun x hx e=>c (e▸hx),c,f⟩
 refine (zlz b w (cellAt a 0 rfl)).mono ?_
 rintro e w' ⟨rfl,rfl⟩;exact ⟨rfl,a,d,c,Fr.refl _ _⟩
theorem zmz (w:World) (ty:TypeId) (i:TypeInfo) (hi:Tryz.prog.info? 5=some i) (hz:i.zero=some (.int .u8 0)) (hs:i.size=1) (hby:i.bytes=1) (v:Value) (n:Nat) (xs:List Value) (hown:w.ownsRowF 0 5 1 v n xs)
 (a:Addr) (m c:Nat) (news:List Value) (hl:news.length=m * 1) (hnews:∀ j u,news[j]?=some u->w.cell? (a.add j)=some u) (h1:∀ u∈news,u.oneCell'=true) (h63:n+m<=maxLen) (hbytes:n+m<=140737488355328) :
 ∃ v' w',(Builtin.append_ #[90,90] ty #[v,.slice (some a) m c]).run Tryz.prog w=.ok v' w'/\w'.ownsRowF 0 5 1 v' (n+m) (xs++news)/\w.grownBy w' v.ownBlock/\(v'=.slice none 0 0↔v=.slice none 0 0/\m=0)/\(∀ x,v'.ownBlock=some x->v.ownBlock=some x\/w.heap.size<=x):=by
 obtain ⟨v',w',e,q,r,s⟩:=run_append_ownF (P:=Tryz.prog) w 0 90 ty 5 i (.int .u8 0) 1 1 Tryz.underlying90 hi hz hs hby rfl (by decide) v n xs hown a m c news hl hnews h1 h63 (by omega) (Nat.zero_le _);refine ⟨v',w',e,q,r,s,?_⟩;rcases hown.2 with ⟨rfl,rfl⟩ | ⟨g,cap,f,p,rfl,B,z,l,A,y,k,o⟩
 · obtain ⟨C,D,b,t,_⟩:=run_append_ownF (P:=Tryz.prog) w w.heap.size 90 ty 5 i (.int .u8 0) 1 1 Tryz.underlying90 hi hz hs hby rfl (by decide) (.slice none 0 0) 0 xs ⟨hown.1,.inl ⟨rfl,rfl⟩⟩ a m c news hl hnews h1 h63 (by omega) (Nat.le_refl _)
   rw [e] at b;cases b
   intro x d;exact .inr (t.lt x d).1
 by_cases hroom:n+m<=cap
 · have b:=run_append_roomF (P:=Tryz.prog) w 90 ty 5 i Tryz.underlying90 hi g n cap f p z (by rw [hs];exact l) a m c news (by rw [hs];exact hl) hnews h1 hroom (by rw [hs,hl,k];omega)
   rw [e] at b;cases b
   intro x d;exact .inl d
 have b:=run_append_grow (P:=Tryz.prog) w 90 ty 5 i (.int .u8 0) Tryz.underlying90 hi hz ⟨g,0,none⟩ n cap xs (by rw [hs];exact hown.1) (hown.cells (g:=g) rfl) a m c news (by rw [hs];exact hl) hnews (by omega) (by unfold maxLen at h63;omega) (by rw [hby];exact growslice_fits (by omega) (by omega))
 rw [e] at b;cases b
 intro x d;simp [Value.ownBlock] at d;exact .inr (by omega)
theorem zqr (w:World) (ty:TypeId) (i:TypeInfo) (hi:Tryz.prog.info? 5=some i) (hz:i.zero=some (.int .u8 0)) (hs:i.size=1) (hby:i.bytes=1) (v:Value) (n:Nat) (xs:List Value) (hown:w.ownsRowF 0 5 1 v n xs) (s:ByteArray)
 (h63:n+s.size<=maxLen) (hbytes:n+s.size<=140737488355328) :
 ∃ v' w',(Builtin.append_ #[90,9] ty #[v,.string s]).run Tryz.prog w=.ok v' w'/\w'.ownsRowF 0 5 1 v' (n+s.size) (xs++Lib.strCells s)/\w.grownBy w' v.ownBlock/\(v'=.slice none 0 0↔v=.slice none 0 0/\s.size=0)/\(∀ x,v'.ownBlock=some x->v.ownBlock=some x\/w.heap.size<=x):=by
 obtain ⟨v',w',c,k,l,m⟩:=Lib.run_append_own_stringF (P:=Tryz.prog) w 0 90 9 ty 5 i Tryz.underlying90 Tryz.underlying9 hi hz hs hby v n xs hown s h63 hbytes (Nat.zero_le _);refine ⟨v',w',c,k,l,m,?_⟩;rcases hown.2 with ⟨rfl,rfl⟩ | ⟨g,cap,d,j,rfl,u,r,e,t,p,q,f⟩
 · obtain ⟨y,z,a,o,_⟩:=Lib.run_append_own_stringF (P:=Tryz.prog) w w.heap.size 90 9 ty 5 i Tryz.underlying90 Tryz.underlying9 hi hz hs hby (.slice none 0 0) 0 xs ⟨hown.1,.inl ⟨rfl,rfl⟩⟩ s h63 hbytes (Nat.le_refl _)
   rw [c] at a;cases a
   intro x b;exact .inr (o.lt x b).1
 by_cases hroom:n+s.size<=cap
 · have a:=Lib.run_append_room_stringF (P:=Tryz.prog) w 90 9 ty 5 i Tryz.underlying90 Tryz.underlying9 hi hs g n cap d j r (by simpa using e) s hroom (by omega)
   rw [c] at a;cases a
   intro x b;exact .inl b
 have a:=Lib.run_append_grow_string (P:=Tryz.prog) w 90 9 ty 5 i (.int .u8 0) Tryz.underlying90 Tryz.underlying9 hi hz ⟨g,0,none⟩ n cap xs (by rw [hs];exact hown.1) (hown.cells (g:=g) rfl) s (by omega) (by unfold maxLen at h63;omega) (by rw [hby];exact growslice_fits (by omega) (by omega))
 rw [c] at a;cases a
 intro x b;simp [Value.ownBlock] at b;exact .inr (by omega)
theorem ziz {w:World} {ops:Array Oper} {rest:List Oper} {o:Oper} {a:Act} {Q:Exit->Act->World->Prop} (hgd:o.guard=none) (s x:Operand)
 (ho:o.op=.call { callee:=.builtin .append,args:=#[s,x],argTypes:=#[90,90] }) (i:TypeInfo) (hi:Tryz.prog.info? 5=some i) (hz:i.zero=some (.int .u8 0)) (hsz:i.size=1) (hby:i.bytes=1) (v:Value) (n:Nat) (xs:List Value) (hs:a.eval s=v) (hown:w.ownsRowF 0 5 1 v n xs)
 (ad:Addr) (m c:Nat) (news:List Value) (hx:a.eval x=.slice (some ad) m c) (hl:news.length=m * 1) (hnews:∀ j u,news[j]?=some u->w.cell? (ad.add j)=some u) (h1:∀ u∈news,u.oneCell'=true) (h63:n+m<=maxLen) (hbytes:n+m<=140737488355328)
 (h:∀ v' w',w'.ownsRowF 0 5 1 v' (n+m) (xs++news)->w.grownBy w' v.ownBlock->(v'=.slice none 0 0↔v=.slice none 0 0/\m=0)->(∀ x,v'.ownBlock=some x->v.ownBlock=some x\/w.heap.size<=x)->wpList Tryz.prog ops Q rest (a.put o.dst v') w'):wpList Tryz.prog ops Q (o :: rest) a w:=by
 refine wpList_plain hgd fun K hK=>?_;obtain ⟨v',w',g,b,d,e,f⟩:=zmz w o.type i hi hz hsz hby v n xs hown ad m c news hl hnews h1 h63 hbytes;unfold Oper.wp execOp;simp only [ho,resolve,invoke,builtin,Sem.run_bind,Sem.run_pure,Result.andThen_ok,List.map_toArray,List.map_cons,List.map_nil,hs,hx,g];exact hK _ _ (h v' w' b d e f)
theorem zlp {w:World} {ops:Array Oper} {rest:List Oper} {o:Oper} {a:Act} {Q:Exit->Act->World->Prop} (hgd:o.guard=none) (sl x:Operand)
 (ho:o.op=.call { callee:=.builtin .append,args:=#[sl,x],argTypes:=#[90,9] }) (i:TypeInfo) (hi:Tryz.prog.info? 5=some i) (hz:i.zero=some (.int .u8 0)) (hsz:i.size=1) (hby:i.bytes=1) (v:Value) (n:Nat) (xs:List Value) (hs:a.eval sl=v) (hown:w.ownsRowF 0 5 1 v n xs)
 (s:ByteArray) (hx:a.eval x=.string s) (h63:n+s.size<=maxLen) (hbytes:n+s.size<=140737488355328)
 (h:∀ v' w',w'.ownsRowF 0 5 1 v' (n+s.size) (xs++Lib.strCells s)->w.grownBy w' v.ownBlock->(v'=.slice none 0 0↔v=.slice none 0 0/\s.size=0)->(∀ x,v'.ownBlock=some x->v.ownBlock=some x\/w.heap.size<=x)->wpList Tryz.prog ops Q rest (a.put o.dst v') w'):wpList Tryz.prog ops Q (o :: rest) a w:=by
 refine wpList_plain hgd fun K hK=>?_;obtain ⟨v',w',f,b,c,d,e⟩:=zqr w o.type i hi hz hsz hby v n xs hown s h63 hbytes;unfold Oper.wp execOp;simp only [ho,resolve,invoke,builtin,Sem.run_bind,Sem.run_pure,Result.andThen_ok,List.map_toArray,List.map_cons,List.map_nil,hs,hx,f];exact hK _ _ (h v' w' b c d e)
set_option maxHeartbeats 2000000 in
theorem zbi (w:World) (b:Nat) (bs:List Value) (v:Value) (c:Int) (h:BdAt w b bs v) (hlen:bs.length+1<=140737488355328) :
 Calls Tryz.prog 135 #[.pointer (some ⟨b,0,none⟩),.int .u8 c] w fun e w'=>e=.returned .nilIface/\∃ v',BdAt w' b (bs++[.int .u8 c]) v'/\Fr (fun x=>x=b\/v.ownBlock=some x) w w'/\(∀ x,v'.ownBlock=some x->v.ownBlock=some x\/w.heap.size<=x):=by
 obtain ⟨O,L,A,B,C⟩:=info_parts infoU8;have D:=zgb w b bs v h;have G:=H_ D;clear D h;go_enter Tryz.func135,Tryz.ntmps135;go_wp2_with (go_at_call 166;refine G.out.mono ?_);rintro e w1 ⟨rfl,i,q,o,m⟩;have c1:w1.cell? ⟨b,1,none⟩=some v:=cellAt i 1 rfl;have Q:w1.cell? ⟨b,0,none⟩=some (.pointer (some ⟨b,0,none⟩)):=cellAt i 0 rfl;go_wp2_with (at_builtin;refine ziz rfl _ _ rfl O L A B C _ _ _ rfl (q.alloc _) ⟨w1.heap.size,0,none⟩ 1 1 [.int .u8 c] rfl rfl ?c1 ?c2 ?c3 ?c4 ?_)
 case c1 =>
  intro j u r
  match j,r with
  | 0,r=>simp at r;subst r;simp [Addr.add]
 case c2=>intro u F;simp at F;subst F;rfl
 case c3=>unfold maxLen;omega
 case c4=>omega
 intro v' l d a _ z;have M:b<w1.heap.size:=zab i;have n:Fr (fun x=>v.ownBlock=some x) w1 l:=((Fr.refl _ w1).alloc _).grown a fun k hk=>.inl hk;have f:=n.heap i (fun e=>o e);have R:l.cell? ⟨b,1,none⟩=some v:=cellAt f 1 rfl;have S:l.frozen? ⟨b,1,none⟩=false:=by unfold World.frozen?;rw [f];rfl
 have E:b<l.heap.size:=zab f
 obtain ⟨g,cap,rfl⟩:∃ g cap,v'=.slice (some ⟨g,0,none⟩) (bs.length+1) cap:=by
  rcases d.2 with ⟨_,V⟩ | ⟨g,cap,I,T,N,_⟩
  · omega
  exact ⟨g,cap,N⟩
 have s:=H_ f;have H:=H_ d;have P:=H_ a;clear a d f;go_wp2;go_ret
 have t:Fr (fun x=>x=b\/v.ownBlock=some x) w (l.setCell ⟨b,1,none⟩ (.slice (some ⟨g,0,none⟩) (bs.length+1) cap)) :=
  ((m.mono fun _ _ h=>.inl h).trans n fun _ _ h=>.inr h).setCell (p:=⟨b,1,none⟩) (.inl (.inl rfl)) _
 have y:g≠b/\(v.ownBlock=some g\/w.heap.size<=g):=by
  rcases z g rfl with h | h
  · exact ⟨fun e=>o (e▸h),.inl h⟩
  have U:w1.heap.size+1<=g:=by simpa using h
  exact ⟨by omega,.inr (by have:=m.size;omega)⟩
 refine ⟨rfl,_,⟨_,.inr rfl,by rw [zaa s.out];rfl,?_,?_⟩,t,fun x hx=>?_⟩
 · have J:Fr (fun x=>x=b) l (l.setCell ⟨b,1,none⟩ (.slice (some ⟨g,0,none⟩) (bs.length+1) cap)):=(Fr.refl _ l).setAt 1 _
   have K:=zew H.out J fun x hx e=>by
    obtain rfl:g=x:=by simpa [Value.ownBlock] using hx
    exact y.1 e
   simpa using K
 · simp [Value.ownBlock]
   exact y.1
 obtain rfl:g=x:=by simpa [Value.ownBlock] using hx
 exact y.2
set_option maxHeartbeats 2000000 in
theorem zib (w:World) (b:Nat) (bs:List Value) (v:Value) (s:ByteArray) (h:BdAt w b bs v) (hlen:bs.length+s.size<=140737488355328) :
 Calls Tryz.prog 137 #[.pointer (some ⟨b,0,none⟩),.string s] w fun e w'=>e=.returned (.tuple #[.int .i64 s.size,.nilIface])/\∃ v',BdAt w' b (bs++Lib.strCells s) v'/\Fr (fun x=>x=b\/v.ownBlock=some x) w w'/\(∀ x,v'.ownBlock=some x->v.ownBlock=some x\/w.heap.size<=x):=by
 obtain ⟨M,K,A,B,C⟩:=info_parts infoU8;have D:=zgb w b bs v h;have F:=H_ D;clear D h;go_enter Tryz.func137,Tryz.ntmps137;go_wp2_with (go_at_call 166;refine F.out.mono ?_);rintro e w1 ⟨rfl,f,o,n,l⟩;have O:w1.cell? ⟨b,1,none⟩=some v:=cellAt f 1 rfl;have N:w1.cell? ⟨b,0,none⟩=some (.pointer (some ⟨b,0,none⟩)):=cellAt f 0 rfl;go_wp2_with (at_builtin;refine zlp rfl _ _ rfl M K A B C _ _ _ rfl o s rfl ?c3 ?c4 ?_)
 case c3=>unfold maxLen;omega
 case c4=>omega
 intro v' i a d _ y;have L:b<w1.heap.size:=zab f;have m:Fr (fun x=>v.ownBlock=some x) w1 i:=(Fr.refl _ w1).grown d fun k hk=>.inl hk;have c:=m.heap f (fun e=>n e);have P:i.cell? ⟨b,1,none⟩=some v:=cellAt c 1 rfl;have Q:i.frozen? ⟨b,1,none⟩=false:=by unfold World.frozen?;rw [c];rfl
 have E:b<i.heap.size:=zab c
 obtain ⟨j,q,cap,rfl⟩:∃ j q cap,v'=.slice j q cap:=by
  rcases a.2 with ⟨z,_⟩ | ⟨g,cap,H,R,z,_⟩
  · exact ⟨_,_,_,z⟩
  exact ⟨_,_,_,z⟩
 have r:=H_ c;have G:=H_ a;clear d a c;go_wp2
 go_ret2
 have t:Fr (fun x=>x=b\/v.ownBlock=some x) w (i.setCell ⟨b,1,none⟩ (.slice j q cap)) :=
  ((l.mono fun _ _ h=>.inl h).trans m fun _ _ h=>.inr h).setCell (p:=⟨b,1,none⟩) (.inl (.inl rfl)) _
 have u:∀ x,(Value.slice j q cap).ownBlock=some x->x≠b/\(v.ownBlock=some x\/w.heap.size<=x):=fun x hx=>by
  rcases y x hx with h | h
  · exact ⟨fun e=>n (e▸h),.inl h⟩
  exact ⟨by omega,.inr (by have:=l.size;omega)⟩
 refine ⟨rfl,_,⟨_,.inr rfl,by rw [zaa r.out];rfl,?_,fun h=>(u b h).1 rfl⟩,t,fun x hx=>(u x hx).2⟩;have I:Fr (fun x=>x=b) i (i.setCell ⟨b,1,none⟩ (.slice j q cap)):=(Fr.refl _ i).setAt 1 _;have J:=zew G.out I fun x hx e=>(u x hx).1 e;simpa [Lib.strCells_length] using J
structure LayR (TA:zao) (w:World) (s sb vb ab:Nat) (S:St) (F:Nat->Prop) (ev:Value) (E:List Ev) (kind:Int) (kv:Value) (L:List Kv) (count:Int) (more:Bool):Prop where
 store:zaj TA w s S F
 box:Has w sb [.pointer (some ⟨s,0,none⟩)]
 evs:Has w vb [ev]
 evl:SlF w 101 13 evC ev E
 ans:Has w ab [.int .i64 kind,kv,.int .i64 count,.bool more]
 kvl:SlF w 99 6 kvC kv L
 f1:¬ F sb
 f2:¬ F vb
 f3:¬ F ab
 f4:∀ b,ev.ownBlock=some b->¬ F b
 f5:∀ b,kv.ownBlock=some b->¬ F b
 n1:sb≠vb
 n2:sb≠ab
 n3:vb≠ab
 e1:ev.ownBlock≠some sb
 e2:ev.ownBlock≠some vb
 e3:ev.ownBlock≠some ab
 k1:kv.ownBlock≠some sb
 k2:kv.ownBlock≠some vb
 k3:kv.ownBlock≠some ab
 ek:∀ b,ev.ownBlock=some b->kv.ownBlock≠some b
def told (x:Ev):List Kv:=if 0<x.prev.version then [x.prev] else []
set_option maxHeartbeats 4000000 in
theorem zpp {TA:zao} {N:Nat} (hT:TreeOk TA N) {n:Nat} (hn:n<=1099511627) (w:World) (s sb vb ab:Nat) (S:St) (F:Nat->Prop) (ev:Value) (E:List Ev) (kind:Int) (kv:Value) (L:List Kv) (count:Int) (more:Bool)
 (a:LayR TA w s sb vb ab S F ev E kind kv L count more) (hok:StOk n S) (x:Ev) (hx:DoOk N S x) (hE:E.length<=1099511627) (hL:L.length<=1099511627) (hc0:0<=count) (hc1:count<=top) :
 Calls Tryz.prog 86 #[.pointer (some ⟨ab,0,none⟩),evV x,.pointer (some ⟨sb,0,none⟩),.pointer (some ⟨vb,0,none⟩)] w fun e w'=>(∃ v,e=.returned v) ∧
  ∃ F' ev' kv',LayR TA w' s sb vb ab (doS S x) F' ev' (E++[x]) kind kv' (L++told x) (count+(told x).length) more ∧
   Fr (fun b=>F b\/b=vb\/b=ab\/ev.ownBlock=some b\/kv.ownBlock=some b) w w'/\(∀ b,F' b->F b\/w.heap.size<=b)/\(∀ b,ev'.ownBlock=some b->ev.ownBlock=some b\/w.heap.size<=b) ∧
   (∀ b,kv'.ownBlock=some b->kv.ownBlock=some b\/w.heap.size<=b):=by
 have d:=H_ a;have HX:=H_ hx;have aF:=a.store.lt hT;have c0:=a.box.cell 0 rfl;have a9:=zad w (Obj.cells #[.int .i64 x.kind,.string x.kv.key,.string x.kv.value,.int .i64 x.kv.create,.int .i64 x.kv.mod,.int .i64 x.kv.version,.int .i64 x.kv.lease,.string x.prev.key,.string x.prev.value,.int .i64 x.prev.create,.int .i64 x.prev.mod,.int .i64 x.prev.version,.int .i64 x.prev.lease] 101) _ rfl;have y:Fr No w (w.alloc (Obj.cells #[.int .i64 x.kind,.string x.kv.key,.string x.kv.value,.int .i64 x.kv.create,.int .i64 x.kv.mod,.int .i64 x.kv.version,.int .i64 x.kv.lease,.string x.prev.key,.string x.prev.value,.int .i64 x.prev.create,.int .i64 x.prev.mod,.int .i64 x.prev.version,.int .i64 x.prev.lease] 101)):=(Fr.refl No w).alloc _;have bl:=a.box.lt;have bm:=a.evs.lt;have bk:=a.ans.lt
 have aP:¬ F w.heap.size:=fun h=>by have:=aF _ h;omega
 obtain ⟨i0,aB,aK,aL,aM⟩:=info_parts info73;obtain ⟨j0,aC,aH,aI,aJ⟩:=info_parts info57;unfold top at hc1;unfold evV;clear a hx;go_enter Tryz.func86,Tryz.ntmps86
 go_wp2_with (first
  | (go_at_call 68;refine (znw hT hn _ s S F (d.out.store.fr0 hT y) hok x HX.out).mono ?_;rintro e w1 ⟨⟨v,rfl⟩,F1,Y,z,af⟩
     have r:=z.heap a9 aP;obtain ⟨k0,k1,k2,k3,k4,k5,k6,k7,k8,k9,aN,al,aO⟩:=cells13 r;have v1:w1.cell? ⟨vb,0,none⟩=some ev:=z.cell (y.cell0 (d.out.evs.cell 0 rfl)) d.out.f2;have t:=zbb w1 [.int .i64 x.kind,.string x.kv.key,.string x.kv.value,.int .i64 x.kv.create,.int .i64 x.kv.mod,.int .i64 x.kv.version,.int .i64 x.kv.lease,.string x.prev.key,.string x.prev.value,.int .i64 x.prev.create,.int .i64 x.prev.mod,.int .i64 x.prev.version,.int .i64 x.prev.lease] 101 (0,0))
  | (at_builtin;refine zat rfl _ _ 28 rfl 101 i0 _ 13 136 Tryz.underlying28 aB aK aL aM rfl (by decide) ev E rfl (((d.out.evl.fr0 y).fr z d.out.f4).alloc _) w1.heap.size 1 x rfl t rfl ?c1 ?c2 ?c3 ?_))
 case c1=>intro u hu;simp [evC,kvC] at hu;rcases hu with rfl | rfl | rfl | rfl | rfl | rfl | rfl | rfl | rfl | rfl | rfl | rfl | rfl <;> rfl
 case c2=>unfold maxLen;omega
 case c3=>omega
 intro i W f G ag C a7 aW;have aY:w.heap.size+1<=w1.heap.size:=by have:=zab r;omega
 have A:Fr (fun b=>ev.ownBlock=some b) w1 G:=((Fr.refl _ w1).alloc _).grown C fun k hk=>.inl hk;have K:=d.out.evl.lt;have V:=d.out.kvl.lt
 have m:ev.ownBlock=some i\/w1.heap.size<=i:=by
  rcases a7 with h | h
  · exact .inl h
  right;have h':i=w1.heap.size+1:=by simpa using h
  omega
 have am:ev.ownBlock≠some w.heap.size:=fun h=>by have:=K _ h;omega
 have v2:=A.cell v1 d.out.e2;have aT:G.frozen? ⟨vb,0,none⟩=false:=A.free v1 (z.free (y.cell0 (d.out.evs.cell 0 rfl)) (y.free0 (d.out.evs.cell 0 rfl) (d.out.evs.free 0)) d.out.f2) d.out.e2;have aR:=A.cell al am;have T:=A.heap r am;have Q:=Y.lt hT;have aw:=H_ Y;have av:=H_ z;have a5:=H_ af;have ax:=H_ ag;have X:=H_ A;have ar:=H_ T;have aQ:vb≠w.heap.size:=by omega
 clear Y z af ag C a7 A r a9 k0 k1 k2 k3 k4 k5 k6 k7 k8 k9 aN al aO v1 t T;go_upto_if 16 with fail;have aZ:w1.heap.size<=G.heap.size:=X.out.size
 have o:∀ b,b<w.heap.size+1->¬ F b->¬ F1 b:=fun b hb hF h=>by
  rcases a5.out b h with h | h
  · exact hF h
  simp at h;omega
 have P:Fr (fun b=>b=vb) G (G.setCell ⟨vb,0,none⟩ (.slice (some ⟨i,W,none⟩) (E.length+1) f)):=(Fr.refl _ G).setAt 0 _;have ak:Fr F w w1:=(y.mono fun _ _ s=>s.elim).trans av.out fun _ _ h=>h;have Z:Fr (fun b=>F b\/ev.ownBlock=some b) w G:=(ak.mono fun _ _ h=>.inl h).trans X.out fun _ _ h=>.inr h
 have O:Fr (fun b=>F b\/b=vb\/ev.ownBlock=some b) w (G.setCell ⟨vb,0,none⟩ (.slice (some ⟨i,W,none⟩) (E.length+1) f)) :=
  (Z.mono fun b _ h=>h.elim .inl fun h=>.inr (.inr h)).trans P fun b _ h=>.inr (.inl h)
 have J:LayR TA (G.setCell ⟨vb,0,none⟩ (.slice (some ⟨i,W,none⟩) (E.length+1) f)) s sb vb ab (doS S x) F1 (.slice (some ⟨i,W,none⟩) (E.length+1) f) (E++[x]) kind kv L count more:={
  store:=(aw.out.fr hT X.out fun b hb e=>o b (by have:=K b e;omega) (d.out.f4 b e) hb).fr hT P fun b hb e=>o vb (by omega) d.out.f2 (by have e':b=vb:=e;rw [<-e'];exact hb)
  box:=d.out.box.fr O fun h=>h.elim d.out.f1 fun h=>h.elim d.out.n1 d.out.e1
  evs:=(d.out.evs.fr Z fun h=>h.elim d.out.f2 d.out.e2).set 0 _
  evl:=ax.out.other ⟨vb,0,none⟩ _ (by
   simp only [Value.ownBlock,ne_eq,Option.some.injEq];rintro rfl;rcases m with h | h
   · exact d.out.e2 h
   omega)
  ans:=d.out.ans.fr O fun h=>h.elim d.out.f3 fun h=>h.elim (fun h=>d.out.n3 h.symm) d.out.e3
  kvl:=d.out.kvl.fr O fun b hb h=>by
   rcases h with h | h | h
   · exact d.out.f5 b hb h
   · exact d.out.k2 (h▸hb)
   exact d.out.ek b h hb
  f1:=o sb (by omega) d.out.f1
  f2:=o vb (by omega) d.out.f2
  f3:=o ab (by omega) d.out.f3
  f4:=fun b hb h=>by
   obtain rfl:i=b:=by simpa [Value.ownBlock] using hb
   rcases m with I | I
   · exact o i (by have:=K i I;omega) (d.out.f4 i I) h
   have:=Q i h;omega
  f5:=fun b hb h=>o b (by have:=V b hb;omega) (d.out.f5 b hb) h
  n1:=d.out.n1
  n2:=d.out.n2
  n3:=d.out.n3
  e1:=by
   simp only [Value.ownBlock,ne_eq,Option.some.injEq];rintro rfl;rcases m with h | h
   · exact d.out.e1 h
   omega
  e2:=by
   simp only [Value.ownBlock,ne_eq,Option.some.injEq];rintro rfl;rcases m with h | h
   · exact d.out.e2 h
   omega
  e3:=by
   simp only [Value.ownBlock,ne_eq,Option.some.injEq];rintro rfl;rcases m with h | h
   · exact d.out.e3 h
   omega
  k1:=d.out.k1
  k2:=d.out.k2
  k3:=d.out.k3
  ek:=fun b hb h=>by
   obtain rfl:i=b:=by simpa [Value.ownBlock] using hb
   rcases m with I | I
   · exact d.out.ek i I h
   have:=V i h;omega }
 have a6:=P.heap ar.out (fun e=>aQ e.symm);have ai:(G.setCell ⟨vb,0,none⟩ (.slice (some ⟨i,W,none⟩) (E.length+1) f)).heap.size=G.heap.size:=by simp
 have b0:w1.heap.size<=(G.setCell ⟨vb,0,none⟩ (.slice (some ⟨i,W,none⟩) (E.length+1) f)).heap.size:=by omega
 clear ai;generalize G.setCell ⟨vb,0,none⟩ (.slice (some ⟨i,W,none⟩) (E.length+1) f)=j at *;have c:=H_ J;have a4:=H_ O;have l:=H_ a6;clear J O a6 P ak Z aR v2 aT
 have R:∀ b,F1 b->F b\/w.heap.size<=b:=fun b hb=>by
  rcases a5.out b hb with h | h
  · exact .inl h
  simp at h;exact .inr (by omega)
 have U:∀ b,(Value.slice (some ⟨i,W,none⟩) (E.length+1) f).ownBlock=some b->ev.ownBlock=some b\/w.heap.size<=b:=fun b hb=>by
  obtain rfl:i=b:=by simpa [Value.ownBlock] using hb
  rcases m with h | h
  · exact .inl h
  exact .inr (by omega)
 by_cases hv:0<x.prev.version
 · have g:told x = [x.prev]:=by unfold told;rw [if_pos hv]
   have a1:=c.out.ans.cell 1 rfl;have a2:=c.out.ans.cell 2 rfl;have f1:=c.out.ans.free 1;have f2:=c.out.ans.free 2;have aE:=c.out.kvl.lt;have ae:=c.out.ans.lt;have b9:=zab l.out;have q7:j.cell? ⟨w.heap.size,7,none⟩=some (.string x.prev.key):=(by simp [World.cell?,l.out]);have q8:j.cell? ⟨w.heap.size,8,none⟩=some (.string x.prev.value):=(by simp [World.cell?,l.out]);have q9:j.cell? ⟨w.heap.size,9,none⟩=some (.int .i64 x.prev.create):=(by simp [World.cell?,l.out]);have bn:j.cell? ⟨w.heap.size,10,none⟩=some (.int .i64 x.prev.mod):=(by simp [World.cell?,l.out]);have bo:j.cell? ⟨w.heap.size,11,none⟩=some (.int .i64 x.prev.version):=(by simp [World.cell?,l.out]);have bp:j.cell? ⟨w.heap.size,12,none⟩=some (.int .i64 x.prev.lease):=(by simp [World.cell?,l.out])
   have t:=zbb j.drew [.string x.prev.key,.string x.prev.value,.int .i64 x.prev.create,.int .i64 x.prev.mod,.int .i64 x.prev.version,.int .i64 x.prev.lease] 99 (0,0);have D:=c.out.k3;have HT:=H_ g;clear g;go_wp2_with fail
   go_region_law (refine zck rfl _ _ 27 rfl 99 j0 _ 6 64 Tryz.underlying27 aC aH aI aJ rfl (by decide) _ L rfl (c.out.kvl.fr0 ((Fr.refl No j).drew.alloc _)) j.heap.size 1 x.prev rfl t rfl (by intro u hu;simp [kvC] at hu;rcases hu with rfl | rfl | rfl | rfl | rfl | rfl <;> rfl) (by unfold maxLen;omega) (by omega) ?_;intro H o2 q w4 ah ad a8 aX;have B:Fr (fun k=>kv.ownBlock=some k) j w4:=((Fr.refl _ j).drew.alloc _).grown ad (fun k hk=>.inl hk);have b1:=B.cell a1 D;have bf:=B.free a1 f1 D;have b2:=B.cell a2 D;have b5:=B.free a2 f2 D;have ay:=H_ ah;have au:=H_ a8;have a3:=H_ B;clear ah ad a8 B)
   all_goals
    have b8:count+1<=1099511627777:=(by omega);go_wp2;refine bodyPost_end (results_none rfl _ _ _) rfl ?_
    have C:kv.ownBlock=some H\/j.heap.size<=H:=by
     rcases au.out with h | h
     · exact .inl h
     right
     have h':H=j.heap.size+1:=(by simpa using h);omega
    have az:∀ b,F1 b->b<j.heap.size:=fun b h=>by have:=Q b h;omega
    have aG:=c.out.evs.lt;have aA:=c.out.box.lt;have aa:=c.out.evl.lt
    have ng:∀ b,kv.ownBlock≠some b->b<j.heap.size->H≠b:=by
     rintro b I h2 rfl;rcases C with h | h
     · exact I h
     omega
    have M:Fr (fun b=>b=ab\/kv.ownBlock=some b) j ((w4.setCell ⟨ab,1,none⟩ (.slice (some ⟨H,o2,none⟩) (L.length+1) q)).setCell ⟨ab,2,none⟩ (.int .i64 (count+1))) :=
     ((a3.out.mono fun _ _ h=>.inr h).setCell (p:=⟨ab,1,none⟩) (.inl (.inl rfl)) _).setCell (p:=⟨ab,2,none⟩) (.inl (.inl rfl)) _
    have aD:∀ b,(Value.slice (some ⟨H,o2,none⟩) (L.length+1) q).ownBlock=some b->kv.ownBlock=some b\/w.heap.size<=b:=fun b hb=>by
     obtain rfl:H=b:=by simpa [Value.ownBlock] using hb
     rcases C with h | h
     · exact .inl h
     exact .inr (by omega)
    refine ⟨⟨_,rfl⟩,F1,_,.slice (some ⟨H,o2,none⟩) (L.length+1) q,{
     store:=c.out.store.fr hT M fun b hb h=>h.elim (fun h=>c.out.f3 (h▸hb)) fun h=>c.out.f5 b h hb
     box:=c.out.box.fr M fun h=>h.elim c.out.n2 c.out.k1
     evs:=c.out.evs.fr M fun h=>h.elim c.out.n3 c.out.k2
     evl:=c.out.evl.fr M fun b hb h=>h.elim (fun h=>c.out.e3 (h▸hb)) fun h=>c.out.ek b hb h
     ans:=by
      rw [HT.out];exact ((c.out.ans.fr a3.out D).set 1 (.slice (some ⟨H,o2,none⟩) (L.length+1) q)).set 2 (.int .i64 (count+1))
     kvl:=by
      rw [HT.out];have ao:=ng ab D ae;exact (ay.out.other ⟨ab,1,none⟩ _ (by simp [Value.ownBlock];exact ao)).other ⟨ab,2,none⟩ _ (by simp [Value.ownBlock];exact ao)
     f1:=c.out.f1
     f2:=c.out.f2
     f3:=c.out.f3
     f4:=c.out.f4
     f5:=fun b hb h=>by
      obtain rfl:H=b:=by simpa [Value.ownBlock] using hb
      rcases C with I | I
      · exact c.out.f5 H I h
      have:=az H h;omega
     n1:=c.out.n1
     n2:=c.out.n2
     n3:=c.out.n3
     e1:=c.out.e1
     e2:=c.out.e2
     e3:=c.out.e3
     k1:=by simp only [Value.ownBlock,ne_eq,Option.some.injEq];exact ng sb c.out.k1 aA
     k2:=by simp only [Value.ownBlock,ne_eq,Option.some.injEq];exact ng vb c.out.k2 aG
     k3:=by simp only [Value.ownBlock,ne_eq,Option.some.injEq];exact ng ab c.out.k3 ae
     ek:=fun b hb=>by
      simp only [Value.ownBlock,ne_eq,Option.some.injEq];exact ng b (c.out.ek b hb) (aa b hb) },?_,R,U,aD⟩
    refine (a4.out.mono fun b _ h=>h.elim .inl fun h=>h.elim (fun h=>.inr (.inl h)) fun h=>.inr (.inr (.inr (.inl h)))).trans M fun b _ h=>h.elim (fun h=>.inr (.inr (.inl h))) fun h=>.inr (.inr (.inr (.inr h)))
 have g:told x = []:=by unfold told;rw [if_neg hv]
 have HT:=H_ g;clear g;go_wp2;refine bodyPost_end (results_none rfl _ _ _) rfl ?_;exact ⟨⟨_,rfl⟩,F1,_,kv,by rw [HT.out];simpa using c.out,a4.out.mono fun b _ h=>h.elim .inl fun h=>h.elim (fun h=>.inr (.inl h)) fun h=>.inr (.inr (.inr (.inl h))),R,U,fun b hb=>.inl hb⟩
def st0:St:={ T:=[],past:=fun _=>none,next:=0,rev:=0,mark:=0,events:=[] }
theorem zdc {TA:zao} {N:Nat} (hT:TreeOk TA N) (w:World):Calls Tryz.prog 17 #[] w fun e w'=>∃ s,e=.returned (.pointer (some ⟨s,0,none⟩))/\∃ F,zaj TA w' s st0 F/\Fr No w w'/\(∀ b,F b->w.heap.size<=b):=by
 have g:∀ w,(Instr.makeMap 105 none).run Tryz.prog w=.ok (.map (some w.heap.size)) (w.alloc (.map #[] 0)):=fun w=>run_makeMap 105 w;go_enter Tryz.func17,Tryz.ntmps17;go_wp2_with (go_at_call 51;refine (hT.new w).mono ?_;rintro e w1 ⟨t,rfl,c,f,d,j⟩);go_ret;have a:=hT.lt f;have k:=d.size;refine ⟨_,rfl,storeF (w1.heap.size+1) w1.heap.size (.slice none 0 0) c fun _ _=>False,⟨t,w1.heap.size,.slice none 0 0,fun _=>none,c,fun _ _=>False,?_,fun _=>Iff.rfl⟩,(d.alloc _).alloc _,?_⟩
 · exact {
    obj:=⟨107,zad _ _ _ (by simp)⟩
    tree:=hT.fr f (((Fr.refl No w1).alloc _).alloc _) fun _ _ s=>s
    map:=(MapAt.made w1).alloc _
    events:=SlF.nil _ _ _ _
    hist:=fun i H h=>by simp [st0] at h
    gone:=fun i h=>⟨rfl,fun _ h=>h⟩
    ds:=⟨fun h=>by have:=a _ h;omega,by simp [Value.ownBlock],fun _ h=>h⟩
    dp:=⟨fun h=>by have:=a _ h;omega,by simp [Value.ownBlock],fun _ h=>h⟩
    dt:=fun b hb=>⟨by simp [Value.ownBlock],fun _ h=>h⟩
    de:=fun b hb=>by simp [Value.ownBlock] at hb
    dh:=fun _ _ _ h=>h.elim }
 rintro b (rfl | rfl | h | h | ⟨_,h⟩)
 · omega
 · omega
 · exact j b h
 · simp [Value.ownBlock] at h
 exact h.elim
theorem zgs {TA:zao} (w:World) (s:Nat) (S:St) (F:Nat->Prop) (hS:zaj TA w s S F):Calls Tryz.prog 19 #[.pointer (some ⟨s,0,none⟩)] w fun e w'=>e=.returned (.int .i64 S.rev)/\w=w':=by
 obtain ⟨t,p,f,g,c,b,a,hF⟩:=hS;have d:=a.obj.cell 3 rfl;have i:=a.obj.lt;clear a;go_enter Tryz.func19,Tryz.ntmps19;go_wp2;go_ret;exact ⟨rfl,rfl⟩
def whenE (S:St) (rev:Int):Int:=if S.rev<rev then 33 else if rev≠0/\rev<S.mark then 32 else 0
theorem zee {TA:zao} (w:World) (s:Nat) (S:St) (F:Nat->Prop) (hS:zaj TA w s S F) (rev:Int):Calls Tryz.prog 84 #[.pointer (some ⟨s,0,none⟩),.int .i64 rev] w fun e w'=>e=.returned (.int .i64 (whenE S rev))/\w=w':=by
 obtain ⟨t,p,j,k,f,d,a,hF⟩:=hS;have g:=a.obj.cell 3 rfl;have i:=a.obj.cell 4 rfl;have l:=a.obj.lt;unfold whenE;clear a;by_cases h1:S.rev<rev
 · rw [if_pos h1]
   go_enter Tryz.func84,Tryz.ntmps84;go_wp2;go_ret;exact ⟨rfl,rfl⟩
 rw [if_neg h1]
 have b:rev<=S.rev:=(by omega);by_cases h2:rev=0
 · subst h2
   go_enter Tryz.func84,Tryz.ntmps84;go_wp2;go_ret;exact ⟨by simp,rfl⟩
 have c:(rev==0)=false:=by simpa using h2
 by_cases h3:rev<S.mark
 · rw [if_pos ⟨h2,h3⟩]
   go_enter Tryz.func84,Tryz.ntmps84;go_wp2;go_ret;exact ⟨rfl,rfl⟩
 rw [if_neg (fun h=>h3 h.2)]
 go_enter Tryz.func84,Tryz.ntmps84;go_wp2;go_ret;exact ⟨rfl,rfl⟩
theorem zue {TA:zao} (w:World) (s:Nat) (S:St) (F:Nat->Prop) (hS:zaj TA w s S F) (v:Value) (hr:S.rev<top):Calls Tryz.prog 85 #[.pointer (some ⟨s,0,none⟩),v] w fun e w'=>e=.returned (.bool true)/\Fr No w w':=by
 obtain ⟨t,p,g,i,d,c,a,hF⟩:=hS;have f:=a.obj.cell 3 rfl;have j:=a.obj.lt;have b:∀ (fn:Fn) (first cap:Array Value) (w:World),(Instr.makeFunc fn first cap).run Tryz.prog w=.ok (.func fn first cap) w:=fun _ _ _ _=>rfl;unfold top at hr;clear a;go_enter Tryz.func85,Tryz.ntmps85;go_wp2;go_ret;exact ⟨rfl,(Fr.refl No w).alloc _⟩
def revOf (g:Rg) (rev:Int):Int:=if g.rev≠0 then g.rev else rev
def allL (S:St) (g:Rg) (rev:Int):List Kv:=zbh S g.key g.end_ (revOf g rev)
def moreB (S:St) (g:Rg) (rev:Int):Bool:=!g.count&&decide (0<g.limit)&&decide (g.limit<(allL S g rev).length)
def cutL (g:Rg) (more:Bool) (l:List Kv):List Kv:=if more then l.take g.limit.toNat else l
def getL (S:St) (g:Rg) (rev:Int):List Kv :=
 if g.count then [] else
  let l:=cutL g (moreB S g rev) (if g.desc then (allL S g rev).reverse else allL S g rev)
  if g.keys then l.map fun x=>{ x with value:=ByteArray.empty } else l
def SlR {α:Type} (w:World) (sz:Nat) (f:α->List Value) (v:Value) (L:List α):Prop :=
 ∃ a cap,v=.slice a L.length cap/\L.length<=cap/\cap<=maxLen ∧
  (0<L.length->∃ g o,a=some ⟨g,o,none⟩/\∀ (i:Nat) (x:α),L[i]?=some x->∀ (j:Nat) (u:Value),(f x)[j]?=some u->w.cell? ⟨g,o+i * sz+j,none⟩=some u)
section
variable {α:Type} {f:α->List Value} {w:World} {e sz:Nat} {v:Value} {L:List α}
theorem SlF.toR (hf:∀ x,(f x).length=sz) (h:SlF w e sz f v L):SlR w sz f v L:=by
 obtain ⟨a,cap,rfl,b,c,d⟩:=h.shape;refine ⟨a,cap,rfl,b,c,fun hp=>?_⟩;obtain ⟨g,o,rfl⟩:=d hp;exact ⟨g,o,rfl,fun i x hx j u hu=>h.cell hf i j hx hu⟩
theorem SlR.nil (w:World) (sz:Nat) (f:α->List Value):SlR w sz f (.slice none 0 0) []:=⟨none,0,rfl,Nat.le_refl _,by simp,fun h=>by simp at h⟩
theorem SlR.shape (h:SlR w sz f v L):∃ a cap,v=.slice a L.length cap/\L.length<=cap/\cap<=maxLen/\(0<L.length->∃ g o,a=some ⟨g,o,none⟩):=by
 obtain ⟨a,cap,rfl,b,c,d⟩:=h;exact ⟨a,cap,rfl,b,c,fun hp=>by obtain ⟨g,o,e,_⟩:=d hp;exact ⟨g,o,e⟩⟩
theorem SlR.cell {g o cap:Nat} (_:∀ x,(f x).length=sz) (h:SlR w sz f (.slice (some ⟨g,o,none⟩) L.length cap) L) (i j:Nat) {x:α} {u:Value} (hx:L[i]?=some x) (hu:(f x)[j]?=some u) :
 w.cell? ⟨g,o+i * sz+j,none⟩=some u:=by
 obtain ⟨a,b,d,m,n,e⟩:=h;have p:=(List.getElem?_eq_some_iff.1 hx).1;obtain ⟨l,q,c,k⟩:=e (by omega);simp only [Value.slice.injEq,true_and] at d;obtain ⟨rfl,rfl⟩:=d;simp only [Option.some.injEq,Addr.mk.injEq,and_true] at c;obtain ⟨rfl,rfl⟩:=c;exact k i x hx j u hu
theorem SlR.cell0 {g o cap:Nat} (hf:∀ x,(f x).length=sz) (h:SlR w sz f (.slice (some ⟨g,o,none⟩) L.length cap) L) (i:Nat) {x:α} {u:Value} (hx:L[i]?=some x) (hu:(f x)[0]?=some u) :
 w.cell? ⟨g,o+i * sz,none⟩=some u:=h.cell hf i 0 hx hu
theorem SlR.fr {w':World} {S:Nat->Prop} (h:SlR w sz f v L) (hf:Fr S w w') (hn:∀ k,v.ownBlock=some k->¬ S k):SlR w' sz f v L:=by
 obtain ⟨a,cap,rfl,b,c,d⟩:=h;refine ⟨a,cap,rfl,b,c,fun hp=>?_⟩;obtain ⟨g,o,rfl,e⟩:=d hp;exact ⟨g,o,rfl,fun i x hx j u hu=>hf.cell (e i x hx j u hu) (hn g rfl)⟩
theorem SlR.fr0 {w':World} (h:SlR w sz f v L) (hf:Fr No w w'):SlR w' sz f v L:=h.fr hf fun _ _ h=>h
theorem SlR.alloc (h:SlR w sz f v L) (o:Obj):SlR (w.alloc o) sz f v L:=h.fr0 ((Fr.refl No w).alloc o)
theorem SlR.take {a:Option Addr} {cap:Nat} (_:∀ x,(f x).length=sz) (h:SlR w sz f (.slice a L.length cap) L) (k:Nat) (hk:k<=L.length):SlR w sz f (.slice a k cap) (L.take k):=by
 obtain ⟨n,b,c,p,d,e⟩:=h;simp only [Value.slice.injEq,true_and] at c;obtain ⟨rfl,rfl⟩:=c;have m:(L.take k).length=k:=by simp;omega
 refine ⟨a,cap,by rw [m],by omega,d,fun hp=>?_⟩;obtain ⟨g,o,j,l⟩:=e (by omega);refine ⟨g,o,j,fun i x hx=>l i x ?_⟩;have q:=(List.getElem?_eq_some_iff.1 hx).1;rw [List.getElem?_take_of_lt (by omega)] at hx;exact hx
theorem SlR.drop {g o cap:Nat} (_:∀ x,(f x).length=sz) (h:SlR w sz f (.slice (some ⟨g,o,none⟩) L.length cap) L) (k:Nat) (hk:k<=L.length) :
 SlR w sz f (.slice (if cap=k then some ⟨g,o,none⟩ else some ⟨g,o+k * sz,none⟩) (L.length-k) (cap-k)) (L.drop k):=by
 obtain ⟨m,a,c,p,q,d⟩:=h;simp only [Value.slice.injEq,true_and] at c;obtain ⟨rfl,rfl⟩:=c;have l:(L.drop k).length=L.length-k:=by simp
 refine ⟨_,_,by rw [l],by omega,by omega,fun hp=>?_⟩;obtain ⟨n,r,b,e⟩:=d (by omega);simp only [Option.some.injEq,Addr.mk.injEq,and_true] at b;obtain ⟨rfl,rfl⟩:=b;refine ⟨g,o+k * sz,by rw [if_neg (by omega)],fun i x hx j u hu=>?_⟩;rw [List.getElem?_drop] at hx;have:=e (k+i) x hx j u hu
 rwa [Nat.add_mul,<-Nat.add_assoc] at this
end
end Go.Proofs.YthljnnjpmdgkoaaGreat