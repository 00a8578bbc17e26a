/- Own lemmas and contracts that the claim's proof needs, laid together. The conditions stand in each. -/
import Derived.Test.YthljnnjpmdgkoaaN31
import Derived.Test.YthljnnjpmdgkoaaN07
namespace Go.Proofs.Ythljnnjpmdgkoaa
open Go Go.Proofs Go.RowKit
set_option maxRecDepth 100000
theorem zgu (t:ByteArray):Lib.strCells t=Lib.byteCells t.data.toList:=by
 unfold Lib.strCells Lib.byteCells
 first | rfl | simp
theorem zcf (a b:List UInt8):Lib.byteCells (a++b)=Lib.byteCells a++Lib.byteCells b:=by simp [Lib.byteCells]
theorem znf {α:Type} {l:List α} {i:Nat} {x:α} (h:l[i]? = some x):l.set i x=l:=by
 apply List.ext_getElem?;intro j;by_cases hj:i=j
 · subst hj
   rw [List.getElem?_set_self (List.getElem?_eq_some_iff.1 h).1,h]
 rw [List.getElem?_set_ne hj]
set_option maxHeartbeats 4000000 in
theorem zlp (w:World) (b nb:Nat) (s:List UInt8) (v:Value) (g i:Nat) (e:TypeId) (cs:List Value) (t:ByteArray) (h:BdAt w b (Lib.byteCells s) v) (hn:Has w nb [.func (.func 102) #[] #[.pointer (some ⟨b,0,none⟩)]]) (hg:w.heap[g]? = some (.cells cs.toArray e (0,0))) (hi:cs[i]? = some (.string t))
 (hgb:g≠b) (hgv:v.ownBlock≠some g) (_hnb:nb≠b) (_hnv:v.ownBlock≠some nb) (hlen:s.length+8+t.size<=140737488355328) :
 Calls Try.prog 104 (#[.pointer (some ⟨g,i,none⟩)] ++ #[.pointer (some ⟨nb,0,none⟩),.pointer (some ⟨b,0,none⟩)]) w fun en w'=>en = .returned (.tuple #[])/\∃ v',BdAt w' b (Lib.byteCells (s++txtB t)) v'/\Fr (fun x=>x=b\/v.ownBlock=some x) w w'/\(∀ x,v'.ownBlock=some x->v.ownBlock=some x\/w.heap.size<=x):=by
 have gs:w.cell? ⟨g,i,none⟩=some (.string t):=cellAt hg i (by simpa using hi);have lg:=zab hg;have n0:=hn.cell 0 rfl;have ln:=hn.lt;have hbl:=h.lt;have hbx:=zac w (Obj.cells #[.int .i64 t.size] 3) _ rfl;have hfx:Fr No w (w.alloc (Obj.cells #[.int .i64 t.size] 3)):=(Fr.refl No w).alloc _;have hC1:=zgq (w.alloc (Obj.cells #[.int .i64 t.size] 3)) b (Lib.byteCells s) v w.heap.size 0 3 [.int .i64 t.size] t.size (h.fr hfx (fun h=>h) (fun _ _ h=>h)) (by simpa using hbx) rfl (by have:=hbl.1;omega) (fun h2=>by have:=hbl.2 _ h2;omega) (by rw [Lib.byteCells_length];omega);have HC1:=H_ hC1;have HFX:=H_ hfx;have HG:=H_ hg;have HI:=H_ hi;clear hC1 h hn hg hi hbx hfx;go_enter Try.func104,Try.ntmps104;go_upto_region 2 with (go_at_call 102;refine HC1.out.mono ?_;rintro en w2 ⟨rfl,v2,hb2,hf2,ho2⟩)
 have hf02:Fr (fun x=>x=b\/v.ownBlock=some x) w w2:=(HFX.out.mono fun _ _ h=>h.elim).trans hf2 fun _ _ h=>h;have hg2:=hf02.heap HG.out (by rintro (h | h);exact hgb h;exact hgv h);have gs2:w2.cell? ⟨g,i,none⟩=some (.string t):=cellAt hg2 i (by simpa using HI.out);have lg2:=zab hg2;have hC2:=zfk w2 b _ v2 t hb2 (by rw [List.length_append,Lib.byteCells_length,Lib.byteCells_length,zay];omega);have HC2:=H_ hC2;have HF02:=H_ hf02
 have HO2:Hid (∀ x,v2.ownBlock=some x->v.ownBlock=some x\/w.heap.size<=x):=H_ fun x hx=>by
  rcases ho2 x hx with h | h
  · exact .inl h
  simp at h;exact .inr (by omega)
 clear hC2 hf02 hf2 hb2 ho2 hg2;go_wp2_with (go_at_call 105;refine HC2.out.mono ?_;rintro en w3 ⟨rfl,v3,hb3,hf3,ho3⟩);refine bodyPost_end (results_none rfl _ _ _) rfl ⟨rfl,v3,?_,HF02.out.trans hf3 fun x hx h=>?_,fun x hx=>?_⟩
 · have h:=hb3
   rw [zgu,<-zcf,<-zcf,List.append_assoc] at h;exact h
 · rcases h with h | h
   · exact .inl h
   rcases HO2.out x h with h | h
   · exact .inr h
   omega
 rcases ho3 x hx with h | h
 · exact HO2.out x h
 exact .inr (by have:=HF02.out.size;omega)
def wrC (c nb b:Nat):Cod (List UInt8) where
 c:=c
 nf:=102
 tf:=104
 nc:=#[.pointer (some ⟨b,0,none⟩)]
 tc:=#[.pointer (some ⟨nb,0,none⟩),.pointer (some ⟨b,0,none⟩)]
 num:=fun s n=>(s++numB n,n)
 txt:=fun s t=>(s++txtB t,t)
 bad:=fun _=>false
 small:=fun s=>s.length<=140737488355328
 At:=fun w s F=>∃ v,BdAt w b (Lib.byteCells s) v/\Has w c [.func (.func 102) #[] #[.pointer (some ⟨b,0,none⟩)],.func (.func 104) #[] #[.pointer (some ⟨nb,0,none⟩),.pointer (some ⟨b,0,none⟩)],.bool false]/\Has w nb [.func (.func 102) #[] #[.pointer (some ⟨b,0,none⟩)]] ∧
  c≠b/\nb≠b/\c≠nb/\v.ownBlock≠some c/\v.ownBlock≠some nb/\∀ x,F x ↔ (x=c\/x=nb\/x=b\/v.ownBlock=some x)
theorem wrC_ok (c nb b:Nat):CodOk (wrC c nb b) where
 enf:=fun args w=>enters_of Try.func102 (by kernel_rfl) rfl args w
 etf:=fun args w=>enters_of Try.func104 (by kernel_rfl) rfl args w
 cell:=fun w s F h=>h.elim fun v h=>h.2.1
 lt:=fun w s F h x hx=>by
  obtain ⟨v,h1,h2,h3,h4,h5,h6,h7,h8,h9⟩:=h;rcases (h9 x).1 hx with rfl | rfl | rfl | h
  · exact h2.lt
  · exact h3.lt
  · exact h1.lt.1
  exact h1.lt.2 x h
 inF:=fun w s F h=>h.elim fun v h=>(h.2.2.2.2.2.2.2.2 c).2 (.inl rfl)
 fr:=fun w w' s F S h hf hn=>by
  obtain ⟨v,h1,h2,h3,h4,h5,h6,h7,h8,h9⟩:=h;refine ⟨v,h1.fr hf (fun h=>hn _ h ((h9 _).2 (.inr (.inr (.inl rfl))))) (fun x hx h=>hn _ h ((h9 _).2 (.inr (.inr (.inr hx))))),h2.fr hf (fun h=>hn _ h ((h9 _).2 (.inl rfl))),h3.fr hf (fun h=>hn _ h ((h9 _).2 (.inr (.inl rfl)))),h4,h5,h6,h7,h8,h9⟩
 snum:=fun s n h=>by
  have h':(s++numB n).length<=140737488355328:=h;rw [List.length_append] at h'
  show s.length<=140737488355328
  omega
 stxt:=fun s t h=>by
  have h':(s++txtB t).length<=140737488355328:=h;rw [List.length_append] at h'
  show s.length<=140737488355328
  omega
 num:=fun w s F g e cs i n hA hg hi hF hsm=>by
  obtain ⟨v,h1,h2,h3,h4,h5,h6,h7,h8,h9⟩:=hA;have hsm':(s++numB n).length<=140737488355328:=hsm;rw [List.length_append,zay] at hsm';have hgb:g≠b:=fun e=>hF ((h9 _).2 (.inr (.inr (.inl e))));have hgv:v.ownBlock≠some g:=fun e=>hF ((h9 _).2 (.inr (.inr (.inr e))));refine (zgq w b (Lib.byteCells s) v g i e cs n h1 hg hi hgb hgv (by rw [Lib.byteCells_length];omega)).mono ?_;rintro en w' ⟨rfl,v',a1,a2,a3⟩;rw [<-zcf] at a1;have hc:=h2.lt;have hn:=h3.lt
  have hne:∀ x,x < w.heap.size->v.ownBlock≠some x->v'.ownBlock≠some x:=fun x hx h h2=>by
   rcases a3 x h2 with h3 | h3
   · exact h h3
   omega
  refine ⟨rfl,fun x=>x=c\/x=nb\/x=b\/v'.ownBlock=some x,⟨v',a1,h2.fr a2 (by rintro (h | h);exact h4 h;exact h7 h),h3.fr a2 (by rintro (h | h);exact h5 h;exact h8 h),h4,h5,h6,hne c hc h7,hne nb hn h8,fun x=>Iff.rfl⟩,?_,?_,?_⟩
  · show w'.heap[g]? = some (.cells (cs.set i (.int .i64 n)).toArray e (0,0))
    rw [znf hi];exact a2.heap hg (by rintro (h | h);exact hgb h;exact hgv h)
  · exact a2.mono fun x _ h=>.inl ((h9 x).2 (by rcases h with h | h;exact .inr (.inr (.inl h));exact .inr (.inr (.inr h))))
  rintro x (h | h | h | h)
  · exact .inl ((h9 x).2 (.inl h))
  · exact .inl ((h9 x).2 (.inr (.inl h)))
  · exact .inl ((h9 x).2 (.inr (.inr (.inl h))))
  rcases a3 x h with h | h
  · exact .inl ((h9 x).2 (.inr (.inr (.inr h))))
  exact .inr h
 txt:=fun w s F g e cs i t hA hg hi hF hsm=>by
  obtain ⟨v,h1,h2,h3,h4,h5,h6,h7,h8,h9⟩:=hA;have hsm':(s++txtB t).length<=140737488355328:=hsm;have ht:t.data.toList.length=t.size:=rfl;unfold txtB at hsm';rw [List.length_append,List.length_append,zay,ht] at hsm';have hgb:g≠b:=fun e=>hF ((h9 _).2 (.inr (.inr (.inl e))));have hgv:v.ownBlock≠some g:=fun e=>hF ((h9 _).2 (.inr (.inr (.inr e))));refine (zlp w b nb s v g i e cs t h1 h3 hg hi hgb hgv h5 h8 (by omega)).mono ?_;rintro en w' ⟨rfl,v',a1,a2,a3⟩;have hc:=h2.lt;have hn:=h3.lt
  have hne:∀ x,x < w.heap.size->v.ownBlock≠some x->v'.ownBlock≠some x:=fun x hx h h2=>by
   rcases a3 x h2 with h3 | h3
   · exact h h3
   omega
  refine ⟨rfl,fun x=>x=c\/x=nb\/x=b\/v'.ownBlock=some x,⟨v',a1,h2.fr a2 (by rintro (h | h);exact h4 h;exact h7 h),h3.fr a2 (by rintro (h | h);exact h5 h;exact h8 h),h4,h5,h6,hne c hc h7,hne nb hn h8,fun x=>Iff.rfl⟩,?_,?_,?_⟩
  · show w'.heap[g]? = some (.cells (cs.set i (.string t)).toArray e (0,0))
    rw [znf hi];exact a2.heap hg (by rintro (h | h);exact hgb h;exact hgv h)
  · exact a2.mono fun x _ h=>.inl ((h9 x).2 (by rcases h with h | h;exact .inr (.inr (.inl h));exact .inr (.inr (.inr h))))
  rintro x (h | h | h | h)
  · exact .inl ((h9 x).2 (.inl h))
  · exact .inl ((h9 x).2 (.inr (.inl h)))
  · exact .inl ((h9 x).2 (.inr (.inr (.inl h))))
  rcases a3 x h with h | h
  · exact .inl ((h9 x).2 (.inr (.inr (.inr h))))
  exact .inr h
theorem zta (c nb b:Nat):(wrC c nb b).way=wrW:=rfl
open Go Go.RowKit
theorem zhc {P:Program} (w:World) (t ty e:TypeId) (i:TypeInfo) (ht:P.underlying t=some (.slice e)) (hi:P.info? e=some i) (a sp:Option Addr) (n cap c:Nat) (hn:n<=cap) :
 (Builtin.append_ #[t,t] ty #[.slice a n cap,.slice sp 0 c]).run P w = .ok (.slice a n cap) w:=by
 cases a <;> cases sp <;> simp [Builtin.append_,run_underlying ht,sizeOf,typeInfo,hi,Builtin.lenOf,hn,Builtin.firstCells,loadCells,loadCellsFrom,storeCells]
theorem zio {α:Type} {f:α->List Value} {P:Program} (w:World) (t ty e:TypeId) (i:TypeInfo) (z:Value) (ht:P.underlying t=some (.slice e)) (hi:P.info? e=some i) (hz:i.zero=some z) (hzs:z.cells.size=i.size) (hsz:0 < i.size)
 (hf:∀ x,(f x).length=i.size) (h1:∀ x,∀ u∈f x,u.oneCell'=true) (v x:Value) (L M:List α) (hv:SlF w e i.size f v L) (hx:SlF w e i.size f x M) (h63:L.length+M.length<=maxLen) (hbytes:(L.length+M.length) * i.bytes<=140737488355328) :
 ∃ v' w',(Builtin.append_ #[t,t] ty #[v,x]).run P w = .ok v' w'/\SlF w' e i.size f v' (L++M)/\Fr (fun b=>v.ownBlock=some b) w w'/\(∀ b,v'.ownBlock=some b->v.ownBlock=some b\/w.heap.size<=b):=by
 rcases Nat.eq_zero_or_pos M.length with h0 | hp
 · obtain rfl:=List.eq_nil_of_length_eq_zero h0
   obtain ⟨a,cap,rfl,hc,_⟩:=hv.shape;obtain ⟨sp,c,rfl,_⟩:=hx.shape;exact ⟨_,w,zhc w t ty e i ht hi a sp _ cap c hc,by rw [List.append_nil];exact hv,Fr.refl _ w,fun b hb=>.inl hb⟩
 obtain ⟨sp,c,rfl,hc1,hc2,hsp⟩:=hx.shape
 obtain ⟨g0,o0,rfl⟩:=hsp hp
 obtain ⟨g,o,cap,w',hr,h2,h3,h4,h5⟩:=zcg (P:=P) w t ty e i z ht hi hz hzs hsz v L.length (L.flatMap f) hv ⟨g0,o0,none⟩ M.length c (M.flatMap f) (zal hf M) hp
  (fun j u hu=>SlF.cells hf hx j u hu) (fun u hu=>by obtain ⟨y,_,hy⟩:=List.mem_flatMap.1 hu;exact h1 y u hy) h63 hbytes
 refine ⟨_,w',hr,?_,(Fr.refl _ w).grown h3 fun k hk=>.inl hk,fun b hb=>?_⟩
 · unfold SlF
   rw [List.length_append,List.flatMap_append];exact h2
 obtain rfl:g=b:=by simpa [Value.ownBlock] using hb
 rcases h4 with e | e
 · exact .inl e
 right;omega
theorem zgv {α:Type} {f:α->List Value} {P:Program} {w:World} {ops:Array Oper} {o:Oper} {a:Act} {K:Act->World->Prop} {Q:Exit->Act->World->Prop} {E:Prop} (hgd:o.guard=none) (s x:Operand) (t:TypeId)
 (ho:o.op = .call { callee:=.builtin .append,args:=#[s,x],argTypes:=#[t,t] })
 (e:TypeId) (i:TypeInfo) (z:Value) (sz bytes:Nat) (ht:P.underlying t=some (.slice e)) (hi:P.info? e=some i) (hz:i.zero=some z) (hsize:i.size=sz) (hby:i.bytes=bytes) (hzs:z.cells.size=sz) (hsz:0 < sz)
 (hf:∀ x,(f x).length=sz) (h1:∀ x,∀ u∈f x,u.oneCell'=true) (v xv:Value) (L M:List α) (hs:a.eval s=v) (hx:a.eval x=xv) (hv:SlF w e sz f v L) (hxv:SlF w e sz f xv M)
 (h63:L.length+M.length<=maxLen) (hbytes:(L.length+M.length) * bytes<=140737488355328)
 (h:∀ v' w',SlF w' e sz f v' (L++M)->Fr (fun b=>v.ownBlock=some b) w w'->(∀ b,v'.ownBlock=some b->v.ownBlock=some b\/w.heap.size<=b)->K (a.put o.dst v') w') :
 if Region.wanted o (yielded ops a.tmps)=true then Oper.wp P o a w K Q else E:=by
 have hw:Region.wanted o (yielded ops a.tmps)=true:=by simp [Region.wanted,hgd]
 rw [if_pos hw];subst hsize;subst hby;obtain ⟨v',w',hr,h2,h3,h4⟩:=zio (P:=P) (f:=f) w t o.type e i z ht hi hz hzs hsz hf h1 v xv L M hv hxv h63 hbytes;unfold Oper.wp execOp;simp only [ho,resolve,invoke,builtin,Sem.run_bind,Sem.run_pure,Result.andThen_ok,List.map_toArray,List.map_cons,List.map_nil,hs,hx,hr];exact h v' w' h2 h3 h4
end Go.Proofs.Ythljnnjpmdgkoaa