/- Own lemmas and contracts that the claim's proof needs, laid together. The conditions stand in each. -/
import Derived.Test.YthljnnjpmdgkoaaN20
import Derived.Test.YthljnnjpmdgkoaaN17
import Derived.Test.YthljnnjpmdgkoaaN14
import Derived.Shelf.Strings.BuilderK
namespace Go.Proofs.Ythljnnjpmdgkoaa
open Go Go.Proofs Go.RowKit
set_option maxRecDepth 100000
theorem info205:(Try.prog.info? 167).map (·.size)=some 2:=by kernel_rfl
theorem lies205:liesAt Try.prog Try.prog.depth 167 (2 / Try.prog.cellsOf 167) 0 167 1=true:=by kernel_rfl
theorem infoU8:(Try.prog.info? 5).map (fun i=>(i.zero,i.size,i.bytes))=some (some (.int .u8 0),1,1):=by kernel_rfl
theorem zis (b:Nat) (w:World) (h0:w.cell? ⟨b,0,none⟩=some (.pointer (some ⟨b,0,none⟩))) :
 Calls Try.prog 126 #[.pointer (some ⟨b,0,none⟩)] w fun e w'=>e = .returned (.tuple #[])/\w'=w:=by
 obtain ⟨j,hj,_⟩:=Option.map_eq_some_iff.1 info205;go_enter Try.func126,Try.ntmps126;go_wp2;rw [Lib.run_neq_ptr_same w _ Try.underlying165 hj];go_wp2
 go_end0
 exact ⟨rfl,rfl⟩
theorem zid (b:Nat) (w:World) (h0:w.cell? ⟨b,0,none⟩=some (.pointer none)) (hsh:w.shape? b=some (167,2)) (hfz:w.frozen? ⟨b,0,none⟩=false) :
 Calls Try.prog 126 #[.pointer (some ⟨b,0,none⟩)] w fun e w'=>e = .returned (.tuple #[])/\w'=w.setCell ⟨b,0,none⟩ (.pointer (some ⟨b,0,none⟩)):=by
 obtain ⟨j,hj,hjs⟩:=Option.map_eq_some_iff.1 info205;go_enter Try.func126,Try.ntmps126;go_wp2;rw [Lib.run_to_unsafe w ⟨b,0,none⟩ Try.underlying165 Try.underlying222 hj (by rw [hjs];decide) hsh (Nat.zero_lt_succ 1)];simp only [Result.andThen];rw [Oper.upon_value];go_wp2;rw [run_callFunc_extern Try.func146 (by kernel_rfl) (by kernel_rfl) (by kernel_rfl) (e:=Extern.AbiNoEscape.same) (by kernel_rfl)];rw [Lib.run_noEscape];simp only [Result.andThen];rw [Oper.upon_value];go_wp2;rw [Lib.run_from_unsafe w ⟨b,0,none⟩ Try.underlying222 Try.underlying165 hj hsh lies205];simp only [Result.andThen];rw [Oper.upon_value];go_wp2
 go_end0
 exact ⟨rfl,rfl⟩
def BdAt (w:World) (b:Nat) (bs:List Value) (v:Value):Prop :=
 ∃ p,(p = .pointer none\/p = .pointer (some ⟨b,0,none⟩))/\w.heap[b]? = some (.cells #[p,v] 167 (0,0))/\w.ownsRowF 0 5 1 v bs.length bs/\v.ownBlock≠some b
theorem zdf {w w':World} {S:Nat->Prop} {v:Value} {n:Nat} {xs:List Value} (h:w.ownsRowF 0 5 1 v n xs) (hf:Fr S w w') (hn:∀ b,v.ownBlock=some b->¬ S b):w'.ownsRowF 0 5 1 v n xs:=by
 refine ⟨h.1,?_⟩;rcases h.2 with h2 | ⟨g,cap,cur,fz,rfl,hb,hg,rest⟩
 · exact .inl h2
 exact .inr ⟨g,cap,cur,fz,rfl,hb,hf.heap hg (hn g rfl),rest⟩
theorem BdAt.fr {w w':World} {S:Nat->Prop} {b:Nat} {bs:List Value} {v:Value} (h:BdAt w b bs v) (hf:Fr S w w') (hb:¬ S b) (hn:∀ x,v.ownBlock=some x->¬ S x):BdAt w' b bs v:=by
 obtain ⟨p,h1,h2,h3,h4⟩:=h;exact ⟨p,h1,hf.heap h2 hb,zdf h3 hf hn,h4⟩
theorem BdAt.lt {w:World} {b:Nat} {bs:List Value} {v:Value} (h:BdAt w b bs v):b < w.heap.size/\∀ x,v.ownBlock=some x->x < w.heap.size:=by
 obtain ⟨p,h1,h2,h3,h4⟩:=h;exact ⟨zab h2,fun x hx=>(h3.lt x hx).2⟩
theorem zea (w:World) (b:Nat) (bs:List Value) (v:Value) (h:BdAt w b bs v) :
 Calls Try.prog 126 #[.pointer (some ⟨b,0,none⟩)] w fun e w'=>e = .returned (.tuple #[])/\w'.heap[b]? = some (.cells #[.pointer (some ⟨b,0,none⟩),v] 167 (0,0))/\w'.ownsRowF 0 5 1 v bs.length bs/\v.ownBlock≠some b/\Fr (fun x=>x=b) w w':=by
 obtain ⟨p,hp,h2,h3,h4⟩:=h;rcases hp with rfl | rfl
 · refine (zid b w (cellAt h2 0 rfl) (by simp [World.shape?,h2]) (by unfold World.frozen?;rw [h2];rfl)).mono ?_
   rintro e w' ⟨rfl,rfl⟩;have hf:Fr (fun x=>x=b) w (w.setCell ⟨b,0,none⟩ (.pointer (some ⟨b,0,none⟩))):=(Fr.refl _ w).setAt 0 _;exact ⟨rfl,by rw [zaa h2];rfl,zdf h3 hf fun x hx e=>h4 (e ▸ hx),h4,hf⟩
 refine (zis b w (cellAt h2 0 rfl)).mono ?_
 rintro e w' ⟨rfl,rfl⟩;exact ⟨rfl,h2,h3,h4,Fr.refl _ _⟩
theorem zjh (w:World) (ty:TypeId) (i:TypeInfo) (hi:Try.prog.info? 5=some i) (hz:i.zero=some (.int .u8 0)) (hs:i.size=1) (hby:i.bytes=1) (v:Value) (n:Nat) (xs:List Value) (hown:w.ownsRowF 0 5 1 v n xs)
 (a:Addr) (m c:Nat) (news:List Value) (hl:news.length=m * 1) (hnews:∀ j u,news[j]? = some u->w.cell? (a.add j)=some u) (h1:∀ u∈news,u.oneCell'=true) (h63:n+m<=maxLen) (hbytes:n+m<=140737488355328) :
 ∃ v' w',(Builtin.append_ #[109,109] ty #[v,.slice (some a) m c]).run Try.prog w = .ok v' w'/\w'.ownsRowF 0 5 1 v' (n+m) (xs++news)/\w.grownBy w' v.ownBlock/\(v' = .slice none 0 0 ↔ v = .slice none 0 0/\m=0)/\(∀ x,v'.ownBlock=some x->v.ownBlock=some x\/w.heap.size<=x):=by
 obtain ⟨v',w',hr,h2,h3,h4⟩:=run_append_ownF (P:=Try.prog) w 0 109 ty 5 i (.int .u8 0) 1 1 Try.underlying109 hi hz hs hby rfl (by decide) v n xs hown a m c news hl hnews h1 h63 (by omega) (Nat.zero_le _);refine ⟨v',w',hr,h2,h3,h4,?_⟩;rcases hown.2 with ⟨rfl,rfl⟩ | ⟨g,cap,cur,fz,rfl,hb,hg,hfz,hnc,hcm,hcs,htake⟩
 · obtain ⟨v2,w2,hr2,h5,_⟩:=run_append_ownF (P:=Try.prog) w w.heap.size 109 ty 5 i (.int .u8 0) 1 1 Try.underlying109 hi hz hs hby rfl (by decide) (.slice none 0 0) 0 xs ⟨hown.1,.inl ⟨rfl,rfl⟩⟩ a m c news hl hnews h1 h63 (by omega) (Nat.le_refl _)
   rw [hr] at hr2;cases hr2
   intro x hx;exact .inr (h5.lt x hx).1
 by_cases hroom:n+m<=cap
 · have hr2:=run_append_roomF (P:=Try.prog) w 109 ty 5 i Try.underlying109 hi g n cap cur fz hg (by rw [hs];exact hfz) a m c news (by rw [hs];exact hl) hnews h1 hroom (by rw [hs,hl,hcs];omega)
   rw [hr] at hr2;cases hr2
   intro x hx;exact .inl hx
 have hr2:=run_append_grow (P:=Try.prog) w 109 ty 5 i (.int .u8 0) Try.underlying109 hi hz ⟨g,0,none⟩ n cap xs (by rw [hs];exact hown.1) (hown.cells (g:=g) rfl) a m c news (by rw [hs];exact hl) hnews (by omega) (by unfold maxLen at h63;omega) (by rw [hby];exact growslice_fits (by omega) (by omega))
 rw [hr] at hr2;cases hr2
 intro x hx;simp [Value.ownBlock] at hx;exact .inr (by omega)
theorem zlx (w:World) (ty:TypeId) (i:TypeInfo) (hi:Try.prog.info? 5=some i) (hz:i.zero=some (.int .u8 0)) (hs:i.size=1) (hby:i.bytes=1) (v:Value) (n:Nat) (xs:List Value) (hown:w.ownsRowF 0 5 1 v n xs) (s:ByteArray)
 (h63:n+s.size<=maxLen) (hbytes:n+s.size<=140737488355328) :
 ∃ v' w',(Builtin.append_ #[109,9] ty #[v,.string s]).run Try.prog w = .ok v' w'/\w'.ownsRowF 0 5 1 v' (n+s.size) (xs++Lib.strCells s)/\w.grownBy w' v.ownBlock/\(v' = .slice none 0 0 ↔ v = .slice none 0 0/\s.size=0)/\(∀ x,v'.ownBlock=some x->v.ownBlock=some x\/w.heap.size<=x):=by
 obtain ⟨v',w',hr,h2,h3,h4⟩:=Lib.run_append_own_stringF (P:=Try.prog) w 0 109 9 ty 5 i Try.underlying109 Try.underlying9 hi hz hs hby v n xs hown s h63 hbytes (Nat.zero_le _);refine ⟨v',w',hr,h2,h3,h4,?_⟩;rcases hown.2 with ⟨rfl,rfl⟩ | ⟨g,cap,cur,fz,rfl,hb,hg,hfz,hnc,hcm,hcs,htake⟩
 · obtain ⟨v2,w2,hr2,h5,_⟩:=Lib.run_append_own_stringF (P:=Try.prog) w w.heap.size 109 9 ty 5 i Try.underlying109 Try.underlying9 hi hz hs hby (.slice none 0 0) 0 xs ⟨hown.1,.inl ⟨rfl,rfl⟩⟩ s h63 hbytes (Nat.le_refl _)
   rw [hr] at hr2;cases hr2
   intro x hx;exact .inr (h5.lt x hx).1
 by_cases hroom:n+s.size<=cap
 · have hr2:=Lib.run_append_room_stringF (P:=Try.prog) w 109 9 ty 5 i Try.underlying109 Try.underlying9 hi hs g n cap cur fz hg (by simpa using hfz) s hroom (by omega)
   rw [hr] at hr2;cases hr2
   intro x hx;exact .inl hx
 have hr2:=Lib.run_append_grow_string (P:=Try.prog) w 109 9 ty 5 i (.int .u8 0) Try.underlying109 Try.underlying9 hi hz ⟨g,0,none⟩ n cap xs (by rw [hs];exact hown.1) (hown.cells (g:=g) rfl) s (by omega) (by unfold maxLen at h63;omega) (by rw [hby];exact growslice_fits (by omega) (by omega))
 rw [hr] at hr2;cases hr2
 intro x hx;simp [Value.ownBlock] at hx;exact .inr (by omega)
theorem zge {w:World} {ops:Array Oper} {rest:List Oper} {o:Oper} {a:Act} {Q:Exit->Act->World->Prop} (hgd:o.guard=none) (s x:Operand)
 (ho:o.op = .call { callee:=.builtin .append,args:=#[s,x],argTypes:=#[109,109] }) (i:TypeInfo) (hi:Try.prog.info? 5=some i) (hz:i.zero=some (.int .u8 0)) (hsz:i.size=1) (hby:i.bytes=1) (v:Value) (n:Nat) (xs:List Value) (hs:a.eval s=v) (hown:w.ownsRowF 0 5 1 v n xs)
 (ad:Addr) (m c:Nat) (news:List Value) (hx:a.eval x = .slice (some ad) m c) (hl:news.length=m * 1) (hnews:∀ j u,news[j]? = some u->w.cell? (ad.add j)=some u) (h1:∀ u∈news,u.oneCell'=true) (h63:n+m<=maxLen) (hbytes:n+m<=140737488355328)
 (h:∀ v' w',w'.ownsRowF 0 5 1 v' (n+m) (xs++news)->w.grownBy w' v.ownBlock->(v' = .slice none 0 0 ↔ v = .slice none 0 0/\m=0)->(∀ x,v'.ownBlock=some x->v.ownBlock=some x\/w.heap.size<=x)->wpList Try.prog ops Q rest (a.put o.dst v') w'):wpList Try.prog ops Q (o :: rest) a w:=by
 refine wpList_plain hgd fun K hK=>?_;obtain ⟨v',w',hr,h2,h3,h4,h5⟩:=zjh w o.type i hi hz hsz hby v n xs hown ad m c news hl hnews h1 h63 hbytes;unfold Oper.wp execOp;simp only [ho,resolve,invoke,builtin,Sem.run_bind,Sem.run_pure,Result.andThen_ok,List.map_toArray,List.map_cons,List.map_nil,hs,hx,hr];exact hK _ _ (h v' w' h2 h3 h4 h5)
theorem zil {w:World} {ops:Array Oper} {rest:List Oper} {o:Oper} {a:Act} {Q:Exit->Act->World->Prop} (hgd:o.guard=none) (sl x:Operand)
 (ho:o.op = .call { callee:=.builtin .append,args:=#[sl,x],argTypes:=#[109,9] }) (i:TypeInfo) (hi:Try.prog.info? 5=some i) (hz:i.zero=some (.int .u8 0)) (hsz:i.size=1) (hby:i.bytes=1) (v:Value) (n:Nat) (xs:List Value) (hs:a.eval sl=v) (hown:w.ownsRowF 0 5 1 v n xs)
 (s:ByteArray) (hx:a.eval x = .string s) (h63:n+s.size<=maxLen) (hbytes:n+s.size<=140737488355328)
 (h:∀ v' w',w'.ownsRowF 0 5 1 v' (n+s.size) (xs++Lib.strCells s)->w.grownBy w' v.ownBlock->(v' = .slice none 0 0 ↔ v = .slice none 0 0/\s.size=0)->(∀ x,v'.ownBlock=some x->v.ownBlock=some x\/w.heap.size<=x)->wpList Try.prog ops Q rest (a.put o.dst v') w'):wpList Try.prog ops Q (o :: rest) a w:=by
 refine wpList_plain hgd fun K hK=>?_;obtain ⟨v',w',hr,h2,h3,h4,h5⟩:=zlx w o.type i hi hz hsz hby v n xs hown s h63 hbytes;unfold Oper.wp execOp;simp only [ho,resolve,invoke,builtin,Sem.run_bind,Sem.run_pure,Result.andThen_ok,List.map_toArray,List.map_cons,List.map_nil,hs,hx,hr];exact hK _ _ (h v' w' h2 h3 h4 h5)
set_option maxHeartbeats 2000000 in
theorem zaw (w:World) (b:Nat) (bs:List Value) (v:Value) (c:Int) (h:BdAt w b bs v) (hlen:bs.length+1<=140737488355328) :
 Calls Try.prog 103 #[.pointer (some ⟨b,0,none⟩),.int .u8 c] w fun e w'=>e = .returned .nilIface/\∃ v',BdAt w' b (bs++[.int .u8 c]) v'/\Fr (fun x=>x=b\/v.ownBlock=some x) w w'/\(∀ x,v'.ownBlock=some x->v.ownBlock=some x\/w.heap.size<=x):=by
 obtain ⟨i0,hi,hz0,hz1,hz2⟩:=info_parts infoU8;have hC:=zea w b bs v h;have HC:=H_ hC;clear hC h;go_enter Try.func103,Try.ntmps103;go_wp2_with (go_at_call 126;refine HC.out.mono ?_);rintro e w1 ⟨rfl,hbk,hown,hne,hf1⟩;have c1:w1.cell? ⟨b,1,none⟩=some v:=cellAt hbk 1 rfl;have c0:w1.cell? ⟨b,0,none⟩=some (.pointer (some ⟨b,0,none⟩)):=cellAt hbk 0 rfl;go_wp2_with (at_builtin;refine zge rfl _ _ rfl i0 hi hz0 hz1 hz2 _ _ _ rfl (hown.alloc _) ⟨w1.heap.size,0,none⟩ 1 1 [.int .u8 c] rfl rfl ?c1 ?c2 ?c3 ?c4 ?_)
 case c1 =>
  intro j u hj
  match j,hj with
  | 0,hj=>simp at hj;subst hj;simp [Addr.add]
 case c2=>intro u hu;simp at hu;subst hu;rfl
 case c3=>unfold maxLen;omega
 case c4=>omega
 intro v' w2 hown' hgrow _ hob;have hlt:b < w1.heap.size:=zab hbk;have hf2:Fr (fun x=>v.ownBlock=some x) w1 w2:=((Fr.refl _ w1).alloc _).grown hgrow fun k hk=>.inl hk;have hb2:=hf2.heap hbk (fun e=>hne e);have d1:w2.cell? ⟨b,1,none⟩=some v:=cellAt hb2 1 rfl;have f1:w2.frozen? ⟨b,1,none⟩=false:=by unfold World.frozen?;rw [hb2];rfl
 have hlt2:b < w2.heap.size:=zab hb2
 obtain ⟨g,cap,rfl⟩:∃ g cap,v' = .slice (some ⟨g,0,none⟩) (bs.length+1) cap:=by
  rcases hown'.2 with ⟨_,h0⟩ | ⟨g,cap,cur,fz,hv,_⟩
  · omega
  exact ⟨g,cap,hv⟩
 have HB2:=H_ hb2;have HO:=H_ hown';have HG:=H_ hgrow;clear hgrow hown' hb2;go_wp2;go_ret
 have hfe:Fr (fun x=>x=b\/v.ownBlock=some x) w (w2.setCell ⟨b,1,none⟩ (.slice (some ⟨g,0,none⟩) (bs.length+1) cap)) :=
  ((hf1.mono fun _ _ h=>.inl h).trans hf2 fun _ _ h=>.inr h).setCell (p:=⟨b,1,none⟩) (.inl (.inl rfl)) _
 have hg:g≠b/\(v.ownBlock=some g\/w.heap.size<=g):=by
  rcases hob g rfl with h | h
  · exact ⟨fun e=>hne (e ▸ h),.inl h⟩
  have h':w1.heap.size+1<=g:=by simpa using h
  exact ⟨by omega,.inr (by have:=hf1.size;omega)⟩
 refine ⟨rfl,_,⟨_,.inr rfl,by rw [zaa HB2.out];rfl,?_,?_⟩,hfe,fun x hx=>?_⟩
 · have h1:Fr (fun x=>x=b) w2 (w2.setCell ⟨b,1,none⟩ (.slice (some ⟨g,0,none⟩) (bs.length+1) cap)):=(Fr.refl _ w2).setAt 1 _
   have h2:=zdf HO.out h1 fun x hx e=>by
    obtain rfl:g=x:=by simpa [Value.ownBlock] using hx
    exact hg.1 e
   simpa using h2
 · simp [Value.ownBlock]
   exact hg.1
 obtain rfl:g=x:=by simpa [Value.ownBlock] using hx
 exact hg.2
set_option maxHeartbeats 2000000 in
theorem zfk (w:World) (b:Nat) (bs:List Value) (v:Value) (s:ByteArray) (h:BdAt w b bs v) (hlen:bs.length+s.size<=140737488355328) :
 Calls Try.prog 105 #[.pointer (some ⟨b,0,none⟩),.string s] w fun e w'=>e = .returned (.tuple #[.int .i64 s.size,.nilIface])/\∃ v',BdAt w' b (bs++Lib.strCells s) v'/\Fr (fun x=>x=b\/v.ownBlock=some x) w w'/\(∀ x,v'.ownBlock=some x->v.ownBlock=some x\/w.heap.size<=x):=by
 obtain ⟨i0,hi,hz0,hz1,hz2⟩:=info_parts infoU8;have hC:=zea w b bs v h;have HC:=H_ hC;clear hC h;go_enter Try.func105,Try.ntmps105;go_wp2_with (go_at_call 126;refine HC.out.mono ?_);rintro e w1 ⟨rfl,hbk,hown,hne,hf1⟩;have c1:w1.cell? ⟨b,1,none⟩=some v:=cellAt hbk 1 rfl;have c0:w1.cell? ⟨b,0,none⟩=some (.pointer (some ⟨b,0,none⟩)):=cellAt hbk 0 rfl;go_wp2_with (at_builtin;refine zil rfl _ _ rfl i0 hi hz0 hz1 hz2 _ _ _ rfl hown s rfl ?c3 ?c4 ?_)
 case c3=>unfold maxLen;omega
 case c4=>omega
 intro v' w2 hown' hgrow _ hob;have hlt:b < w1.heap.size:=zab hbk;have hf2:Fr (fun x=>v.ownBlock=some x) w1 w2:=(Fr.refl _ w1).grown hgrow fun k hk=>.inl hk;have hb2:=hf2.heap hbk (fun e=>hne e);have d1:w2.cell? ⟨b,1,none⟩=some v:=cellAt hb2 1 rfl;have f1:w2.frozen? ⟨b,1,none⟩=false:=by unfold World.frozen?;rw [hb2];rfl
 have hlt2:b < w2.heap.size:=zab hb2
 obtain ⟨ao,n',cap,rfl⟩:∃ ao n' cap,v' = .slice ao n' cap:=by
  rcases hown'.2 with ⟨hv,_⟩ | ⟨g,cap,cur,fz,hv,_⟩
  · exact ⟨_,_,_,hv⟩
  exact ⟨_,_,_,hv⟩
 have HB2:=H_ hb2;have HO:=H_ hown';clear hgrow hown' hb2;go_wp2
 go_ret2
 have hfe:Fr (fun x=>x=b\/v.ownBlock=some x) w (w2.setCell ⟨b,1,none⟩ (.slice ao n' cap)) :=
  ((hf1.mono fun _ _ h=>.inl h).trans hf2 fun _ _ h=>.inr h).setCell (p:=⟨b,1,none⟩) (.inl (.inl rfl)) _
 have hg:∀ x,(Value.slice ao n' cap).ownBlock=some x->x≠b/\(v.ownBlock=some x\/w.heap.size<=x):=fun x hx=>by
  rcases hob x hx with h | h
  · exact ⟨fun e=>hne (e ▸ h),.inl h⟩
  exact ⟨by omega,.inr (by have:=hf1.size;omega)⟩
 refine ⟨rfl,_,⟨_,.inr rfl,by rw [zaa HB2.out];rfl,?_,fun h=>(hg b h).1 rfl⟩,hfe,fun x hx=>(hg x hx).2⟩;have h1:Fr (fun x=>x=b) w2 (w2.setCell ⟨b,1,none⟩ (.slice ao n' cap)):=(Fr.refl _ w2).setAt 1 _;have h2:=zdf HO.out h1 fun x hx e=>(hg x hx).1 e;simpa [Lib.strCells_length] using h2
structure LayR (TA:zan) (w:World) (s sb vb ab:Nat) (S:St) (F:Nat->Prop) (ev:Value) (E:List Ev) (kind:Int) (kv:Value) (L:List Kv) (count:Int) (more:Bool):Prop where
 store:zaj TA w s S F
 box:Has w sb [.pointer (some ⟨s,0,none⟩)]
 evs:Has w vb [ev]
 evl:SlF w 73 13 evC ev E
 ans:Has w ab [.int .i64 kind,kv,.int .i64 count,.bool more]
 kvl:SlF w 57 6 kvC kv L
 f1:¬ F sb
 f2:¬ F vb
 f3:¬ F ab
 f4:∀ b,ev.ownBlock=some b->¬ F b
 f5:∀ b,kv.ownBlock=some b->¬ F b
 n1:sb≠vb
 n2:sb≠ab
 n3:vb≠ab
 e1:ev.ownBlock≠some sb
 e2:ev.ownBlock≠some vb
 e3:ev.ownBlock≠some ab
 k1:kv.ownBlock≠some sb
 k2:kv.ownBlock≠some vb
 k3:kv.ownBlock≠some ab
 ek:∀ b,ev.ownBlock=some b->kv.ownBlock≠some b
def told (x:Ev):List Kv:=if 0 < x.prev.version then [x.prev] else []
set_option maxHeartbeats 4000000 in
theorem zlb {TA:zan} {N:Nat} (hT:TreeOk TA N) {n:Nat} (hn:n<=1099511627) (w:World) (s sb vb ab:Nat) (S:St) (F:Nat->Prop) (ev:Value) (E:List Ev) (kind:Int) (kv:Value) (L:List Kv) (count:Int) (more:Bool)
 (a:LayR TA w s sb vb ab S F ev E kind kv L count more) (hok:StOk n S) (x:Ev) (hx:DoOk N S x) (hE:E.length<=1099511627) (hL:L.length<=1099511627) (hc0:0<=count) (hc1:count<=top) :
 Calls Try.prog 74 #[.pointer (some ⟨ab,0,none⟩),evV x,.pointer (some ⟨sb,0,none⟩),.pointer (some ⟨vb,0,none⟩)] w fun e w'=>(∃ v,e = .returned v) ∧
  ∃ F' ev' kv',LayR TA w' s sb vb ab (doS S x) F' ev' (E++[x]) kind kv' (L++told x) (count+(told x).length) more ∧
   Fr (fun b=>F b\/b=vb\/b=ab\/ev.ownBlock=some b\/kv.ownBlock=some b) w w'/\(∀ b,F' b->F b\/w.heap.size<=b)/\(∀ b,ev'.ownBlock=some b->ev.ownBlock=some b\/w.heap.size<=b) ∧
   (∀ b,kv'.ownBlock=some b->kv.ownBlock=some b\/w.heap.size<=b):=by
 have HA:=H_ a;have HX:=H_ hx;have hls:=a.store.lt hT;have c0:=a.box.cell 0 rfl;have hbx:=zac w (Obj.cells #[.int .i64 x.kind,.string x.kv.key,.string x.kv.value,.int .i64 x.kv.create,.int .i64 x.kv.mod,.int .i64 x.kv.version,.int .i64 x.kv.lease,.string x.prev.key,.string x.prev.value,.int .i64 x.prev.create,.int .i64 x.prev.mod,.int .i64 x.prev.version,.int .i64 x.prev.lease] 73) _ rfl;have hf0:Fr No w (w.alloc (Obj.cells #[.int .i64 x.kind,.string x.kv.key,.string x.kv.value,.int .i64 x.kv.create,.int .i64 x.kv.mod,.int .i64 x.kv.version,.int .i64 x.kv.lease,.string x.prev.key,.string x.prev.value,.int .i64 x.prev.create,.int .i64 x.prev.mod,.int .i64 x.prev.version,.int .i64 x.prev.lease] 73)):=(Fr.refl No w).alloc _;have lsb:=a.box.lt;have lvb:=a.evs.lt;have lab:=a.ans.lt
 have nbx:¬ F w.heap.size:=fun h=>by have:=hls _ h;omega
 obtain ⟨i0,hi0,hz0,hz1,hz2⟩:=info_parts info73;obtain ⟨j0,hj0,hy0,hy1,hy2⟩:=info_parts info57;unfold top at hc1;unfold evV;clear a hx;go_enter Try.func74,Try.ntmps74
 go_wp2_with (first
  | (go_at_call 75;refine (znz hT hn _ s S F (HA.out.store.fr0 hT hf0) hok x HX.out).mono ?_;rintro e w1 ⟨⟨v,rfl⟩,F1,hs1,hf1,hn1⟩
     have hbx1:=hf1.heap hbx nbx;obtain ⟨k0,k1,k2,k3,k4,k5,k6,k7,k8,k9,k10,k11,k12⟩:=cells13 hbx1;have v1:w1.cell? ⟨vb,0,none⟩=some ev:=hf1.cell (hf0.cell0 (HA.out.evs.cell 0 rfl)) HA.out.f2;have hnew:=zas w1 [.int .i64 x.kind,.string x.kv.key,.string x.kv.value,.int .i64 x.kv.create,.int .i64 x.kv.mod,.int .i64 x.kv.version,.int .i64 x.kv.lease,.string x.prev.key,.string x.prev.value,.int .i64 x.prev.create,.int .i64 x.prev.mod,.int .i64 x.prev.version,.int .i64 x.prev.lease] 73 (0,0))
  | (at_builtin;refine zap rfl _ _ 34 rfl 73 i0 _ 13 136 Try.underlying34 hi0 hz0 hz1 hz2 rfl (by decide) ev E rfl (((HA.out.evl.fr0 hf0).fr hf1 HA.out.f4).alloc _) w1.heap.size 1 x rfl hnew rfl ?c1 ?c2 ?c3 ?_))
 case c1=>intro u hu;simp [evC,kvC] at hu;rcases hu with rfl | rfl | rfl | rfl | rfl | rfl | rfl | rfl | rfl | rfl | rfl | rfl | rfl <;> rfl
 case c2=>unfold maxLen;omega
 case c3=>omega
 intro g1 o1 cap1 w2 hs2 hg2 hb2 hlt2;have hsz1:w.heap.size+1<=w1.heap.size:=by have:=zab hbx1;omega
 have hf2:Fr (fun b=>ev.ownBlock=some b) w1 w2:=((Fr.refl _ w1).alloc _).grown hg2 fun k hk=>.inl hk;have hevl:=HA.out.evl.lt;have hkvl:=HA.out.kvl.lt
 have hg1:ev.ownBlock=some g1\/w1.heap.size<=g1:=by
  rcases hb2 with h | h
  · exact .inl h
  right;have h':g1=w1.heap.size+1:=by simpa using h
  omega
 have nev:ev.ownBlock≠some w.heap.size:=fun h=>by have:=hevl _ h;omega
 have v2:=hf2.cell v1 HA.out.e2;have v2f:w2.frozen? ⟨vb,0,none⟩=false:=hf2.free v1 (hf1.free (hf0.cell0 (HA.out.evs.cell 0 rfl)) (hf0.free0 (HA.out.evs.cell 0 rfl) (HA.out.evs.free 0)) HA.out.f2) HA.out.e2;have p11:=hf2.cell k11 nev;have hbx2:=hf2.heap hbx1 nev;have hF1l:=hs1.lt hT;have HS1:=H_ hs1;have HF1:=H_ hf1;have HN1:=H_ hn1;have HS2:=H_ hs2;have HF2:=H_ hf2;have HB2:=H_ hbx2;have nvb:vb≠w.heap.size:=by omega
 clear hs1 hf1 hn1 hs2 hg2 hb2 hf2 hbx1 hbx k0 k1 k2 k3 k4 k5 k6 k7 k8 k9 k10 k11 k12 v1 hnew hbx2;go_upto_if 16 with fail;have hsz2:w1.heap.size<=w2.heap.size:=HF2.out.size
 have nF1:∀ b,b < w.heap.size+1->¬ F b->¬ F1 b:=fun b hb hF h=>by
  rcases HN1.out b h with h | h
  · exact hF h
  simp at h;omega
 have hf3:Fr (fun b=>b=vb) w2 (w2.setCell ⟨vb,0,none⟩ (.slice (some ⟨g1,o1,none⟩) (E.length+1) cap1)):=(Fr.refl _ w2).setAt 0 _;have hw1:Fr F w w1:=(hf0.mono fun _ _ s=>s.elim).trans HF1.out fun _ _ h=>h;have hw2:Fr (fun b=>F b\/ev.ownBlock=some b) w w2:=(hw1.mono fun _ _ h=>.inl h).trans HF2.out fun _ _ h=>.inr h
 have hfT:Fr (fun b=>F b\/b=vb\/ev.ownBlock=some b) w (w2.setCell ⟨vb,0,none⟩ (.slice (some ⟨g1,o1,none⟩) (E.length+1) cap1)) :=
  (hw2.mono fun b _ h=>h.elim .inl fun h=>.inr (.inr h)).trans hf3 fun b _ h=>.inr (.inl h)
 have hbase:LayR TA (w2.setCell ⟨vb,0,none⟩ (.slice (some ⟨g1,o1,none⟩) (E.length+1) cap1)) s sb vb ab (doS S x) F1 (.slice (some ⟨g1,o1,none⟩) (E.length+1) cap1) (E++[x]) kind kv L count more:={
  store:=(HS1.out.fr hT HF2.out fun b hb e=>nF1 b (by have:=hevl b e;omega) (HA.out.f4 b e) hb).fr hT hf3 fun b hb e=>nF1 vb (by omega) HA.out.f2 (by have e':b=vb:=e;rw [<-e'];exact hb)
  box:=HA.out.box.fr hfT fun h=>h.elim HA.out.f1 fun h=>h.elim HA.out.n1 HA.out.e1
  evs:=(HA.out.evs.fr hw2 fun h=>h.elim HA.out.f2 HA.out.e2).set 0 _
  evl:=HS2.out.other ⟨vb,0,none⟩ _ (by
   simp only [Value.ownBlock,ne_eq,Option.some.injEq];rintro rfl;rcases hg1 with h | h
   · exact HA.out.e2 h
   omega)
  ans:=HA.out.ans.fr hfT fun h=>h.elim HA.out.f3 fun h=>h.elim (fun h=>HA.out.n3 h.symm) HA.out.e3
  kvl:=HA.out.kvl.fr hfT fun b hb h=>by
   rcases h with h | h | h
   · exact HA.out.f5 b hb h
   · exact HA.out.k2 (h ▸ hb)
   exact HA.out.ek b h hb
  f1:=nF1 sb (by omega) HA.out.f1
  f2:=nF1 vb (by omega) HA.out.f2
  f3:=nF1 ab (by omega) HA.out.f3
  f4:=fun b hb h=>by
   obtain rfl:g1=b:=by simpa [Value.ownBlock] using hb
   rcases hg1 with h1 | h1
   · exact nF1 g1 (by have:=hevl g1 h1;omega) (HA.out.f4 g1 h1) h
   have:=hF1l g1 h;omega
  f5:=fun b hb h=>nF1 b (by have:=hkvl b hb;omega) (HA.out.f5 b hb) h
  n1:=HA.out.n1
  n2:=HA.out.n2
  n3:=HA.out.n3
  e1:=by
   simp only [Value.ownBlock,ne_eq,Option.some.injEq];rintro rfl;rcases hg1 with h | h
   · exact HA.out.e1 h
   omega
  e2:=by
   simp only [Value.ownBlock,ne_eq,Option.some.injEq];rintro rfl;rcases hg1 with h | h
   · exact HA.out.e2 h
   omega
  e3:=by
   simp only [Value.ownBlock,ne_eq,Option.some.injEq];rintro rfl;rcases hg1 with h | h
   · exact HA.out.e3 h
   omega
  k1:=HA.out.k1
  k2:=HA.out.k2
  k3:=HA.out.k3
  ek:=fun b hb h=>by
   obtain rfl:g1=b:=by simpa [Value.ownBlock] using hb
   rcases hg1 with h1 | h1
   · exact HA.out.ek g1 h1 h
   have:=hkvl g1 h;omega }
 have hB3:=hf3.heap HB2.out (fun e=>nvb e.symm);have hsz3:(w2.setCell ⟨vb,0,none⟩ (.slice (some ⟨g1,o1,none⟩) (E.length+1) cap1)).heap.size=w2.heap.size:=by simp
 have hsz4:w1.heap.size<=(w2.setCell ⟨vb,0,none⟩ (.slice (some ⟨g1,o1,none⟩) (E.length+1) cap1)).heap.size:=by omega
 clear hsz3;generalize w2.setCell ⟨vb,0,none⟩ (.slice (some ⟨g1,o1,none⟩) (E.length+1) cap1)=W3 at *;have HBASE:=H_ hbase;have HFT:=H_ hfT;have HB3:=H_ hB3;clear hbase hfT hB3 hf3 hw1 hw2 p11 v2 v2f
 have hF1n:∀ b,F1 b->F b\/w.heap.size<=b:=fun b hb=>by
  rcases HN1.out b hb with h | h
  · exact .inl h
  simp at h;exact .inr (by omega)
 have hevn:∀ b,(Value.slice (some ⟨g1,o1,none⟩) (E.length+1) cap1).ownBlock=some b->ev.ownBlock=some b\/w.heap.size<=b:=fun b hb=>by
  obtain rfl:g1=b:=by simpa [Value.ownBlock] using hb
  rcases hg1 with h | h
  · exact .inl h
  exact .inr (by omega)
 by_cases hv:0 < x.prev.version
 · have htold:told x = [x.prev]:=by unfold told;rw [if_pos hv]
   have a1:=HBASE.out.ans.cell 1 rfl;have a2:=HBASE.out.ans.cell 2 rfl;have f1:=HBASE.out.ans.free 1;have f2:=HBASE.out.ans.free 2;have hkvl3:=HBASE.out.kvl.lt;have hl3:=HBASE.out.ans.lt;have hlb:=zab HB3.out;have q7:W3.cell? ⟨w.heap.size,7,none⟩=some (.string x.prev.key):=(by simp [World.cell?,HB3.out]);have q8:W3.cell? ⟨w.heap.size,8,none⟩=some (.string x.prev.value):=(by simp [World.cell?,HB3.out]);have q9:W3.cell? ⟨w.heap.size,9,none⟩=some (.int .i64 x.prev.create):=(by simp [World.cell?,HB3.out]);have q10:W3.cell? ⟨w.heap.size,10,none⟩=some (.int .i64 x.prev.mod):=(by simp [World.cell?,HB3.out]);have q11:W3.cell? ⟨w.heap.size,11,none⟩=some (.int .i64 x.prev.version):=(by simp [World.cell?,HB3.out]);have q12:W3.cell? ⟨w.heap.size,12,none⟩=some (.int .i64 x.prev.lease):=(by simp [World.cell?,HB3.out])
   have hnew:=zas W3.drew [.string x.prev.key,.string x.prev.value,.int .i64 x.prev.create,.int .i64 x.prev.mod,.int .i64 x.prev.version,.int .i64 x.prev.lease] 57 (0,0);have nk3:=HBASE.out.k3;have HT:=H_ htold;clear htold;go_wp2_with fail
   go_region_law (refine zbj rfl _ _ 53 rfl 57 j0 _ 6 64 Try.underlying53 hj0 hy0 hy1 hy2 rfl (by decide) _ L rfl (HBASE.out.kvl.fr0 ((Fr.refl No W3).drew.alloc _)) W3.heap.size 1 x.prev rfl hnew rfl (by intro u hu;simp [kvC] at hu;rcases hu with rfl | rfl | rfl | rfl | rfl | rfl <;> rfl) (by unfold maxLen;omega) (by omega) ?_;intro g2 o2 cap2 w4 hs4 hg4 hb4 hlt4;have hf4:Fr (fun k=>kv.ownBlock=some k) W3 w4:=((Fr.refl _ W3).drew.alloc _).grown hg4 (fun k hk=>.inl hk);have b1:=hf4.cell a1 nk3;have bf:=hf4.free a1 f1 nk3;have b2:=hf4.cell a2 nk3;have bf2:=hf4.free a2 f2 nk3;have HS4:=H_ hs4;have HB4:=H_ hb4;have HF4:=H_ hf4;clear hs4 hg4 hb4 hf4)
   all_goals
    have hcz:count+1<=1099511627777:=(by omega);go_wp2;refine bodyPost_end (results_none rfl _ _ _) rfl ?_
    have hg2:kv.ownBlock=some g2\/W3.heap.size<=g2:=by
     rcases HB4.out with h | h
     · exact .inl h
     right
     have h':g2=W3.heap.size+1:=(by simpa using h);omega
    have hFs:∀ b,F1 b->b < W3.heap.size:=fun b h=>by have:=hF1l b h;omega
    have hvl:=HBASE.out.evs.lt;have hbl:=HBASE.out.box.lt;have hell:=HBASE.out.evl.lt
    have ng:∀ b,kv.ownBlock≠some b->b < W3.heap.size->g2≠b:=by
     rintro b h1 h2 rfl;rcases hg2 with h | h
     · exact h1 h
     omega
    have hf6:Fr (fun b=>b=ab\/kv.ownBlock=some b) W3 ((w4.setCell ⟨ab,1,none⟩ (.slice (some ⟨g2,o2,none⟩) (L.length+1) cap2)).setCell ⟨ab,2,none⟩ (.int .i64 (count+1))) :=
     ((HF4.out.mono fun _ _ h=>.inr h).setCell (p:=⟨ab,1,none⟩) (.inl (.inl rfl)) _).setCell (p:=⟨ab,2,none⟩) (.inl (.inl rfl)) _
    have hkn:∀ b,(Value.slice (some ⟨g2,o2,none⟩) (L.length+1) cap2).ownBlock=some b->kv.ownBlock=some b\/w.heap.size<=b:=fun b hb=>by
     obtain rfl:g2=b:=by simpa [Value.ownBlock] using hb
     rcases hg2 with h | h
     · exact .inl h
     exact .inr (by omega)
    refine ⟨⟨_,rfl⟩,F1,_,.slice (some ⟨g2,o2,none⟩) (L.length+1) cap2,{
     store:=HBASE.out.store.fr hT hf6 fun b hb h=>h.elim (fun h=>HBASE.out.f3 (h ▸ hb)) fun h=>HBASE.out.f5 b h hb
     box:=HBASE.out.box.fr hf6 fun h=>h.elim HBASE.out.n2 HBASE.out.k1
     evs:=HBASE.out.evs.fr hf6 fun h=>h.elim HBASE.out.n3 HBASE.out.k2
     evl:=HBASE.out.evl.fr hf6 fun b hb h=>h.elim (fun h=>HBASE.out.e3 (h ▸ hb)) fun h=>HBASE.out.ek b hb h
     ans:=by
      rw [HT.out];exact ((HBASE.out.ans.fr HF4.out nk3).set 1 (.slice (some ⟨g2,o2,none⟩) (L.length+1) cap2)).set 2 (.int .i64 (count+1))
     kvl:=by
      rw [HT.out];have ng2:=ng ab nk3 hl3;exact (HS4.out.other ⟨ab,1,none⟩ _ (by simp [Value.ownBlock];exact ng2)).other ⟨ab,2,none⟩ _ (by simp [Value.ownBlock];exact ng2)
     f1:=HBASE.out.f1
     f2:=HBASE.out.f2
     f3:=HBASE.out.f3
     f4:=HBASE.out.f4
     f5:=fun b hb h=>by
      obtain rfl:g2=b:=by simpa [Value.ownBlock] using hb
      rcases hg2 with h1 | h1
      · exact HBASE.out.f5 g2 h1 h
      have:=hFs g2 h;omega
     n1:=HBASE.out.n1
     n2:=HBASE.out.n2
     n3:=HBASE.out.n3
     e1:=HBASE.out.e1
     e2:=HBASE.out.e2
     e3:=HBASE.out.e3
     k1:=by simp only [Value.ownBlock,ne_eq,Option.some.injEq];exact ng sb HBASE.out.k1 hbl
     k2:=by simp only [Value.ownBlock,ne_eq,Option.some.injEq];exact ng vb HBASE.out.k2 hvl
     k3:=by simp only [Value.ownBlock,ne_eq,Option.some.injEq];exact ng ab HBASE.out.k3 hl3
     ek:=fun b hb=>by
      simp only [Value.ownBlock,ne_eq,Option.some.injEq];exact ng b (HBASE.out.ek b hb) (hell b hb) },?_,hF1n,hevn,hkn⟩
    refine (HFT.out.mono fun b _ h=>h.elim .inl fun h=>h.elim (fun h=>.inr (.inl h)) fun h=>.inr (.inr (.inr (.inl h)))).trans hf6 fun b _ h=>h.elim (fun h=>.inr (.inr (.inl h))) fun h=>.inr (.inr (.inr (.inr h)))
 have htold:told x = []:=by unfold told;rw [if_neg hv]
 have HT:=H_ htold;clear htold;go_wp2;refine bodyPost_end (results_none rfl _ _ _) rfl ?_;exact ⟨⟨_,rfl⟩,F1,_,kv,by rw [HT.out];simpa using HBASE.out,HFT.out.mono fun b _ h=>h.elim .inl fun h=>h.elim (fun h=>.inr (.inl h)) fun h=>.inr (.inr (.inr (.inl h))),hF1n,hevn,fun b hb=>.inl hb⟩
end Go.Proofs.Ythljnnjpmdgkoaa