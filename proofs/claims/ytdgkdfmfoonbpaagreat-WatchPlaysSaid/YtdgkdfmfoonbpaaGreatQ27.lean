/- Own lemmas. -/
import Derived.Test.YtdgkdfmfoonbpaaGreatQ26
namespace Go.Proofs.YtdgkdfmfoonbpaaGreat
open Go Go.Proofs Go.RowKit
theorem zru {L:List (Int×Sm)} {id:Int} {s0 s:Sm} (h0:getH L id=some s0) (i:Int):getH (setH L id s) i=if i=id then some s else getH L i:=by
 unfold getH setH at *
 induction L with
 | nil=>simp at h0
 | cons p L ih =>
   rw [List.map_cons,List.find?_cons];rw [List.find?_cons] at h0;by_cases e:p.1=id
   · rw [if_pos e]
     by_cases ei:i=id
     · have a:((id,s).1==i)=true:=by simp [ei]
       rw [a,if_pos ei]
       rfl
     have a:((id,s).1==i)=false:=by simp;exact fun h=>ei h.symm
     have b:(p.1==i)=false:=by rw [e];simp;exact fun h=>ei h.symm
     rw [a,if_neg ei,List.find?_cons,b];dsimp only;clear ih h0 a b
     induction L with
     | nil=>rfl
     | cons q L ih =>
       rw [List.map_cons,List.find?_cons,List.find?_cons];by_cases eq:q.1=id
       · rw [if_pos eq]
         have a:((id,s).1==i)=false:=by simp;exact fun h=>ei h.symm
         have b:(q.1==i)=false:=by rw [eq];simp;exact fun h=>ei h.symm
         rw [a,b];exact ih
       rw [if_neg eq]
       cases q.1==i with
       | true=>rfl
       | false=>exact ih
   rw [if_neg e]
   have a:(p.1==id)=false:=(by simpa using e);rw [a] at h0;dsimp only at h0;have b:=ih h0
   cases h3:p.1==i with
   | true =>
     have:i≠id:=by
      rintro rfl;rw [a] at h3;cases h3
     rw [if_neg this,List.find?_cons,h3]
   | false =>
     dsimp only;rw [b,List.find?_cons,h3]
theorem zrv (L:List (Int×Sm)) (id i:Int):getH (delH L id) i=if i=id then none else getH L i:=by
 unfold getH delH
 induction L with
 | nil=>simp
 | cons p L ih =>
   rw [List.filter_cons,List.find?_cons];by_cases e:p.1=id
   · rw [if_neg (by simpa using e),ih]
     by_cases ei:i=id
     · rw [if_pos ei,if_pos ei]
     have a:(p.1==i)=false:=by rw [e];simp;exact fun h=>ei h.symm
     rw [if_neg ei,if_neg ei,a]
   rw [if_pos (by simpa using e),List.find?_cons]
   cases h3:p.1==i with
   | true =>
     have b:p.1=i:=(by simpa using h3);rw [if_neg (by rw [<-b];exact e)]
   | false =>
     dsimp only;exact ih
theorem zrw {L:List (Int×Sm)} {id:Int} {s:Sm} (h0:getH L id=none) (i:Int):getH (L++[(id,s)]) i=if i=id then some s else getH L i:=by
 unfold getH at *;rw [List.find?_append];by_cases e:i=id
 · subst e
   rw [Option.map_eq_none_iff] at h0;rw [if_pos rfl,h0];simp
 rw [if_neg e]
 have:([(id,s)]:List (Int×Sm)).find? (fun p=>p.1==i)=none:=by
  rw [List.find?_cons];have a:((id,s).1==i)=false:=by simp;exact fun h=>e h.symm
  rw [a]
  rfl
 rw [this,Option.or_none]
def smC (t:Wt) (bv:Value) (p:Int):List Value:=[.string t.key,.string t.end_,.int .i64 t.frm,.bool t.np,.bool t.nd,.bool t.prev,bv,.int .i64 p]
structure SmR (w:World) (b:Nat) (bv:Value) (s:Sm):Prop where
 obj:Has w b (smC s.w bv s.place)
 buf:SlF w 72 13 evC bv s.buf
 d:bv.ownBlock≠some b
def SmAt (w:World) (b:Nat) (s:Sm) (F:Nat->Prop):Prop:=∃ bv,SmR w b bv s/\∀ x,F x↔x=b\/bv.ownBlock=some x
theorem SmAt.lt {w:World} {b:Nat} {s:Sm} {F:Nat->Prop} (a:SmAt w b s F):∀ x,F x->x<w.heap.size:=by
 obtain ⟨bv,a,hF⟩:=a;intro x c;rcases (hF x).1 c with rfl | h
 · exact a.obj.lt
 exact a.buf.lt x h
theorem SmR.fr {w w':World} {b:Nat} {bv:Value} {s:Sm} {X:Nat->Prop} (a:SmR w b bv s) (hf:Fr X w w') (h1:¬ X b) (h2:∀ x,bv.ownBlock=some x->¬ X x):SmR w' b bv s :=
 ⟨a.obj.fr hf h1,a.buf.fr hf h2,a.d⟩
theorem SmAt.fr {w w':World} {b:Nat} {s:Sm} {F X:Nat->Prop} (a:SmAt w b s F) (hf:Fr X w w') (hn:∀ x,F x->¬ X x):SmAt w' b s F:=by
 obtain ⟨bv,a,hF⟩:=a;exact ⟨bv,a.fr hf (hn _ ((hF _).2 (.inl rfl))) fun x hx=>hn x ((hF x).2 (.inr hx)),hF⟩
structure HubR (w:World) (h st m:Nat) (hp:Int->Option Nat) (FL:Int->Nat->Prop) (H:Hb):Prop where
 obj:Has w h [.pointer (some ⟨st,0,none⟩),.int .i64 H.fed,.int .i64 H.last,.map (some m)]
 map:MapAt w m fun i=>(hp i).map fun b=>.pointer (some ⟨b,0,none⟩)
 sm:∀ i s,getH H.L i=some s->∃ b,hp i=some b/\SmAt w b s (FL i)
 gone:∀ i,getH H.L i=none->hp i=none/\∀ b,¬ FL i b
 dh:∀ i,¬ FL i h
 dm:∀ i,¬ FL i m
 dl:∀ i j b,FL i b->FL j b->i=j
 ok:HbOk H
def hubF (h m:Nat) (FL:Int->Nat->Prop) (b:Nat):Prop:=b=h\/b=m\/∃ i,FL i b
def HubAt (w:World) (h st:Nat) (H:Hb) (F:Nat->Prop):Prop:=∃ m hp FL,HubR w h st m hp FL H/\∀ b,F b↔hubF h m FL b
section
variable {w w':World} {h st m:Nat} {hp:Int->Option Nat} {FL:Int->Nat->Prop} {H:Hb}
theorem HubR.fl (a:HubR w h st m hp FL H) {i:Int} {b:Nat} (hb:FL i b):∃ s p,getH H.L i=some s/\hp i=some p/\SmAt w p s (FL i):=by
 cases hl:getH H.L i with
 | none=>exact absurd hb ((a.gone i hl).2 b)
 | some s =>
   obtain ⟨p,c,d⟩:=a.sm i s hl;exact ⟨s,p,rfl,c,d⟩
theorem HubR.lt (a:HubR w h st m hp FL H):∀ b,hubF h m FL b->b<w.heap.size:=by
 rintro b (rfl | rfl | ⟨i,e⟩)
 · exact a.obj.lt
 · exact a.map.lt
 obtain ⟨s,p,_,_,h⟩:=a.fl e
 exact h.lt b e
theorem HubR.fr {X:Nat->Prop} (a:HubR w h st m hp FL H) (hf:Fr X w w') (hn:∀ b,hubF h m FL b->¬ X b):HubR w' h st m hp FL H where
 obj:=a.obj.fr hf (hn _ (.inl rfl))
 map:=a.map.fr hf (hn _ (.inr (.inl rfl)))
 sm i s hi:=by
  obtain ⟨b,h1,h2⟩:=a.sm i s hi;exact ⟨b,h1,h2.fr hf fun b hb=>hn b (.inr (.inr ⟨i,hb⟩))⟩
 gone:=a.gone
 dh:=a.dh
 dm:=a.dm
 dl:=a.dl
 ok:=a.ok
theorem HubAt.fr {F X:Nat->Prop} (a:HubAt w h st H F) (hf:Fr X w w') (hn:∀ b,F b->¬ X b):HubAt w' h st H F:=by
 obtain ⟨m,d,c,a,hF⟩:=a;exact ⟨m,d,c,a.fr hf (fun b hb=>hn b ((hF b).2 hb)),hF⟩
theorem HubAt.fr0 {F:Nat->Prop} (a:HubAt w h st H F) (hf:Fr No w w'):HubAt w' h st H F:=a.fr hf fun _ _ s=>s
theorem HubAt.lt {F:Nat->Prop} (a:HubAt w h st H F):∀ b,F b->b<w.heap.size:=by
 obtain ⟨m,d,c,a,hF⟩:=a;exact fun b hb=>a.lt b ((hF b).1 hb)
theorem HubR.setObj (a:HubR w h st m hp FL H) {f l:Int} (hf:Fr (fun b=>b=h) w w') (ho:Has w' h [.pointer (some ⟨st,0,none⟩),.int .i64 f,.int .i64 l,.map (some m)]) (hk:HbOk ⟨f,l,H.L⟩):HubR w' h st m hp FL ⟨f,l,H.L⟩ where
 obj:=ho
 map:=a.map.fr hf fun e=>a.map.apart a.obj e
 sm i s hi:=by
  obtain ⟨b,h1,h2⟩:=a.sm i s hi;exact ⟨b,h1,h2.fr hf fun b hb e=>a.dh i (e▸hb)⟩
 gone:=a.gone
 dh:=a.dh
 dm:=a.dm
 dl:=a.dl
 ok:=hk
theorem HubR.setSm (a:HubR w h st m hp FL H) {id:Int} {p:Nat} {s0 s:Sm} {F':Nat->Prop} (hl:getH H.L id=some s0) (hid:hp id=some p) (hf:Fr (FL id) w w') (hh:SmAt w' p s F') (hn:∀ b,F' b->FL id b\/w.heap.size<=b) :
 HubR w' h st m hp (fun i=>if i=id then F' else FL i) ⟨H.fed,H.last,setH H.L id s⟩ where
 obj:=a.obj.fr hf (a.dh id)
 map:=a.map.fr hf (a.dm id)
 sm i s' hi:=by
  dsimp only at hi;rw [zru hl] at hi;by_cases e:i=id
  · subst e
    rw [if_pos rfl] at hi;cases hi
    exact ⟨p,hid,by rw [if_pos rfl];exact hh⟩
  rw [if_neg e] at hi
  obtain ⟨b,c,d⟩:=a.sm i s' hi;exact ⟨b,c,by rw [if_neg e];exact d.fr hf fun b hb hb'=>e (a.dl i id b hb hb')⟩
 gone i hi:=by
  dsimp only at hi;rw [zru hl] at hi;by_cases e:i=id
  · rw [if_pos e] at hi;cases hi
  rw [if_neg e] at hi
  exact ⟨(a.gone i hi).1,by rw [if_neg e];exact (a.gone i hi).2⟩
 dh i e:=by
  by_cases hi':i=id
  · rw [if_pos hi'] at e
    rcases hn _ e with h | h
    · exact a.dh _ h
    have:=a.obj.lt;omega
  rw [if_neg hi'] at e;exact a.dh i e
 dm i e:=by
  by_cases hi':i=id
  · rw [if_pos hi'] at e
    rcases hn _ e with h | h
    · exact a.dm _ h
    have:=a.map.lt;omega
  rw [if_neg hi'] at e;exact a.dm i e
 dl i j b hi hj:=by
  have key:∀ k,FL k b->w.heap.size<=b->False:=fun k hk hb=>by
   have:=a.lt b (.inr (.inr ⟨k,hk⟩));omega
  by_cases ei:i=id
  · by_cases ej:j=id
    · rw [ei,ej]
    try dsimp only at hi hj
    rw [if_pos ei] at hi;rw [if_neg ej] at hj;rcases hn _ hi with h | h
    · rw [ei];exact (a.dl j id b hj h).symm
    exact (key j hj h).elim
  by_cases ej:j=id
  · try dsimp only at hi hj
    rw [if_neg ei] at hi;rw [if_pos ej] at hj;rcases hn _ hj with h | h
    · rw [ej];exact a.dl i id b hi h
    exact (key i hi h).elim
  try dsimp only at hi hj
  rw [if_neg ei] at hi;rw [if_neg ej] at hj;exact a.dl i j b hi hj
 ok:=a.ok.set id s H.fed
theorem HubR.addSm (a:HubR w h st m hp FL H) {id:Int} {p:Nat} {s:Sm} (hid:getH H.L id=none) (hb:s.buf = []) (hf:Fr (fun b=>b=m) w w') (hp':∀ b,hubF h m FL b->b≠p) (ho:Has w' p (smC s.w (.slice none 0 0) s.place))
 (hm:MapAt w' m fun i=>if i=id then some (.pointer (some ⟨p,0,none⟩)) else (hp i).map fun h=>.pointer (some ⟨h,0,none⟩)) (hk:HbOk ⟨H.fed,H.last,H.L++[(id,s)]⟩) :
 HubR w' h st m (fun i=>if i=id then some p else hp i) (fun i=>if i=id then (fun b=>b=p) else FL i) ⟨H.fed,H.last,H.L++[(id,s)]⟩ where
 obj:=a.obj.fr hf fun e=>a.map.apart a.obj e.symm
 map:=by
  refine cast (congrArg (MapAt w' m) (funext fun i=>?_)) hm;by_cases e:i=id
  · simp only [if_pos e,Option.map_some]
  simp only [if_neg e]
 sm i s' hi:=by
  dsimp only at hi;rw [zrw hid] at hi;by_cases e:i=id
  · rw [if_pos e] at hi
    cases hi
    refine ⟨p,by rw [if_pos e],.slice none 0 0,⟨ho,by rw [hb];exact SlF.nil _ _ _ _,by simp [Value.ownBlock]⟩,fun x=>?_⟩;rw [if_pos e];simp [Value.ownBlock]
  rw [if_neg e] at hi
  obtain ⟨b,c,d⟩:=a.sm i s' hi;exact ⟨b,by rw [if_neg e];exact c,by rw [if_neg e];exact d.fr hf fun b hb e'=>a.dm i (e'▸hb)⟩
 gone i hi:=by
  dsimp only at hi;rw [zrw hid] at hi;by_cases e:i=id
  · rw [if_pos e] at hi;cases hi
  rw [if_neg e] at hi
  exact ⟨by rw [if_neg e];exact (a.gone i hi).1,by rw [if_neg e];exact (a.gone i hi).2⟩
 dh i e:=by
  by_cases hi':i=id
  · rw [if_pos hi'] at e
    exact hp' h (.inl rfl) e
  rw [if_neg hi'] at e;exact a.dh i e
 dm i e:=by
  by_cases hi':i=id
  · rw [if_pos hi'] at e
    exact hp' m (.inr (.inl rfl)) e
  rw [if_neg hi'] at e;exact a.dm i e
 dl i j b hi hj:=by
  by_cases ei:i=id
  · by_cases ej:j=id
    · rw [ei,ej]
    try dsimp only at hi hj
    rw [if_pos ei] at hi;rw [if_neg ej] at hj;exact absurd hi (hp' b (.inr (.inr ⟨j,hj⟩)))
  by_cases ej:j=id
  · try dsimp only at hi hj
    rw [if_neg ei] at hi;rw [if_pos ej] at hj;exact absurd hj (hp' b (.inr (.inr ⟨i,hi⟩)))
  try dsimp only at hi hj
  rw [if_neg ei] at hi;rw [if_neg ej] at hj;exact a.dl i j b hi hj
 ok:=hk
theorem HubR.delSm (a:HubR w h st m hp FL H) (id:Int) (hf:Fr (fun b=>b=m) w w') (hm:MapAt w' m fun i=>if i=id then none else (hp i).map fun h=>.pointer (some ⟨h,0,none⟩)) :
 HubR w' h st m (fun i=>if i=id then none else hp i) (fun i b=>i≠id/\FL i b) ⟨H.fed,H.last,delH H.L id⟩ where
 obj:=a.obj.fr hf fun e=>a.map.apart a.obj e.symm
 map:=by
  refine cast (congrArg (MapAt w' m) (funext fun i=>?_)) hm;by_cases e:i=id
  · simp only [if_pos e,Option.map_none]
  simp only [if_neg e]
 sm i s' hi:=by
  dsimp only at hi;rw [zrv] at hi;by_cases e:i=id
  · rw [if_pos e] at hi;cases hi
  rw [if_neg e] at hi
  obtain ⟨b,c,d⟩:=a.sm i s' hi;have hF:(fun b=>i≠id/\FL i b)=FL i:=funext fun b=>propext ⟨fun x=>x.2,fun x=>⟨e,x⟩⟩;exact ⟨b,by rw [if_neg e];exact c,by rw [hF];exact d.fr hf fun b hb e'=>a.dm i (e'▸hb)⟩
 gone i hi:=by
  dsimp only at hi;rw [zrv] at hi;by_cases e:i=id
  · exact ⟨by rw [if_pos e],fun b hb=>hb.1 e⟩
  rw [if_neg e] at hi
  exact ⟨by rw [if_neg e];exact (a.gone i hi).1,fun b hb=>(a.gone i hi).2 b hb.2⟩
 dh i e:=a.dh i e.2
 dm i e:=a.dm i e.2
 dl i j b hi hj:=a.dl i j b hi.2 hj.2
 ok:=a.ok.del id
end
set_option maxRecDepth 100000
theorem zero98 (w:World):(zeroValue 98).run Tryz.prog w=.ok (.pointer none) w:=by kernel_rfl
theorem zxq {TA:zao} (w:World) (st:Nat) (S:St) (F:Nat->Prop) (hS:zam TA w st S F) :
 Calls Tryz.prog 11 #[.pointer (some ⟨st,0,none⟩)] w fun e w'=>∃ h,e=.returned (.tuple #[.pointer (some ⟨h,0,none⟩),.int .i64 0])/\∃ FH,HubAt w' h st ⟨S.rev,0,[]⟩ FH/\Fr No w w'/\∀ b,FH b->w.heap.size<=b:=by
 have f:∀ w,(Instr.makeMap 94 none).run Tryz.prog w=.ok (.map (some w.heap.size)) (w.alloc (.map #[] 0)):=fun w=>run_makeMap 94 w;have a:=zgd w st S F hS;have c:=H_ a;clear a hS;go_enter Tryz.func11,Tryz.ntmps11;go_wp2_with (go_at_call 40;(with_reducible refine c.out.mono ?_);rintro e w1 ⟨rfl,rfl⟩)
 go_ret2
 have d:MapAt (w.alloc (.map #[] 0)) w.heap.size fun _=>none:=MapAt.made w;refine ⟨_,rfl,_,⟨w.heap.size,fun _=>none,fun _ _=>False,⟨⟨_,zad _ _ _ (by simp)⟩,d.alloc _,fun i s h=>by simp [getH] at h,fun i _=>⟨rfl,fun _ h=>h⟩,fun _ h=>h,fun _ h=>h,fun _ _ _ h=>h.elim,⟨List.Pairwise.nil,fun p hp=>by simp at hp,Int.le_refl 0⟩⟩,fun b=>Iff.rfl⟩,((Fr.refl No w).alloc _).alloc _,fun b hb=>?_⟩;rcases hb with rfl | rfl | ⟨_,h⟩
 · simp
 · exact Nat.le_refl _
 exact h.elim
theorem zxr {w:World} {h st:Nat} {H:Hb} {F:Nat->Prop} (hH:HubAt w h st H F):Calls Tryz.prog 16 #[.pointer (some ⟨h,0,none⟩)] w fun e w'=>e=.returned (.int .i64 H.fed)/\w=w':=by
 obtain ⟨m,d,b,a,hF⟩:=hH;have c:=a.obj.cell 1 rfl;have f:=a.obj.lt;clear a hF;go_enter Tryz.func16,Tryz.ntmps16;go_wp2;go_ret;exact ⟨rfl,rfl⟩
theorem HubR.look {w:World} {h st m:Nat} {hp:Int->Option Nat} {FL:Int->Nat->Prop} {H:Hb} (a:HubR w h st m hp FL H) (i:Int):(((hp i).map fun b=>Value.pointer (some ⟨b,0,none⟩)).getD (.pointer none)=.pointer none↔getH H.L i=none):=by
 cases hl:getH H.L i with
 | none=>simp [(a.gone i hl).1]
 | some s =>
   obtain ⟨b,c,_⟩:=a.sm i s hl;simp [c]
def closeH (H:Hb) (i:Int):Hb:=if getH H.L i=none then H else ⟨H.fed,H.last,delH H.L i⟩
theorem zqu {w:World} {h st:Nat} {H:Hb} {F:Nat->Prop} (hH:HubAt w h st H F) (i:Int) (hi:(Lit.int .i64 i).wf=true):Calls Tryz.prog 15 #[.pointer (some ⟨h,0,none⟩),.int .i64 i] w fun e w'=>e=.returned (.int .i64 (takeE H i))/\∃ F',HubAt w' h st (closeH H i) F'/\Fr F w w'/\∀ b,F' b->F b:=by
 have d:=hH;obtain ⟨m,z,y,a,hF⟩:=hH;have B:=a.obj.cell 3 rfl;have C:=a.obj.lt;have n:=H_ a.map;have x:=H_ a;have c:=a.look i;unfold takeE closeH
 cases hl:getH H.L i with
 | none =>
   have l:=c.2 hl;have r:=H_ l;clear a l c hF x;go_enter Tryz.func15,Tryz.ntmps15;go_wp2_with (at_lookup;refine zbj rfl _ _ 94 rfl 3 98 Tryz.underlying94 Tryz.underlying3 m _ rfl n.out i rfl hi _ (zero98 _) _ r.out ?_);go_ret;exact ⟨rfl,F,d,Fr.refl _ _,fun _ h=>h⟩
 | some s =>
   obtain ⟨p,u,v⟩:=a.sm i s hl;have l:((z i).map fun b=>Value.pointer (some ⟨b,0,none⟩)).getD (.pointer none)=.pointer (some ⟨p,0,none⟩):=(by rw [u];rfl);have r:=H_ l;have g:∀ b,b=m->F b:=fun b e=>(hF b).2 (.inr (.inl e))
   have k:∀ b,hubF h m (fun j b=>j≠i/\y j b) b->F b:=fun b hb=>(hF b).2 (by
    rcases hb with h | h | ⟨j,h⟩
    · exact .inl h
    · exact .inr (.inl h)
    exact .inr (.inr ⟨j,h.2⟩))
   have o:=H_ g;have q:=H_ k;clear a l c v d hF g k;go_enter Tryz.func15,Tryz.ntmps15
   go_wp2_with (first
    | (at_lookup;refine zbj rfl _ _ 94 rfl 3 98 Tryz.underlying94 Tryz.underlying3 m _ rfl n.out i rfl hi _ (zero98 _) _ r.out ?_)
    | (refine zhx rfl _ _ 94 3 rfl 98 Tryz.underlying94 Tryz.underlying3 m _ rfl n.out i rfl hi ?_;intro D t f A))
   go_ret;exact ⟨by simp,_,⟨m,_,_,x.out.delSm i f t,fun b=>Iff.rfl⟩,f.mono fun b _ e=>o.out b e,q.out⟩
theorem zbd {α:Type} {f:α->List Value} {P:Program} {w:World} {ops:Array Oper} {rest:List Oper} {o:Oper} {a:Act} {Q:Exit->Act->World->Prop} (hgd:o.guard=none) (s x:Operand) (t:TypeId)
 (ho:o.op=.call { callee:=.builtin .append,args:=#[s,x],argTypes:=#[t,t] })
 (e:TypeId) (i:TypeInfo) (z:Value) (sz bytes:Nat) (ht:P.underlying t=some (.slice e)) (hi:P.info? e=some i) (hz:i.zero=some z) (hsize:i.size=sz) (hby:i.bytes=bytes) (hzs:z.cells.size=sz) (hsz:0<sz)
 (v:Value) (L:List α) (hs:a.eval s=v) (hown:SlF w e sz f v L) (w0:World) (hnb:∀ k,v.ownBlock=some k->w0.heap.size<=k) (hfr:Fr No w0 w)
 (b c:Nat) (y:α) (hx:a.eval x=.slice (some ⟨b,0,none⟩) 1 c) (hnews:∀ j u,(f y)[j]?=some u->w.cell? ((⟨b,0,none⟩:Addr).add j)=some u) (hl:(f y).length=sz) (h1:∀ u∈f y,u.oneCell'=true)
 (h63:L.length+1<=maxLen) (hbytes:(L.length+1) * bytes<=140737488355328)
 (h:∀ g o' cap w',SlF w' e sz f (.slice (some ⟨g,o',none⟩) (L.length+1) cap) (L++[y])->w0.heap.size<=g->Fr No w0 w'->g<w'.heap.size →
   wpList P ops Q rest (a.put o.dst (.slice (some ⟨g,o',none⟩) (L.length+1) cap)) w'):wpList P ops Q (o :: rest) a w:=by
 refine zaq hgd s x t ho e i z sz bytes ht hi hz hsize hby hzs hsz v L hs hown b c y hx hnews hl h1 h63 hbytes ?_;intro g o' cap w' d l m n;refine h g o' cap w' d ?_ (hfr.grown l fun k hk=>.inr (hnb k hk)) n;rcases m with e | e
 · exact hnb _ e
 rw [e];exact hfr.size
def wtV (t:Wt):Value:=.agg #[.string t.key,.string t.end_,.int .i64 t.frm,.bool t.np,.bool t.nd,.bool t.prev]
theorem info72:(Tryz.prog.info? 72).map (fun i=>(i.zero,i.size,i.bytes))=some (some (.agg #[.int .i64 0,.string ByteArray.empty,.string ByteArray.empty,.int .i64 0,.int .i64 0,.int .i64 0,.int .i64 0,.string ByteArray.empty,.string ByteArray.empty,.int .i64 0,.int .i64 0,.int .i64 0,.int .i64 0]),13,136):=by kernel_rfl
set_option maxHeartbeats 8000000 in
theorem zhe (w:World) (t:Wt) (v:Value) (l:List Ev) (hv:SlF w 72 13 evC v l) (hl:l.length<=4000000) :
 Calls Tryz.prog 44 #[wtV t,v] w fun e w'=>∃ v',e=.returned v'/\SlF w' 72 13 evC v' (wantsW t l)/\Fr No w w'/\(∀ b,v'.ownBlock=some b->w.heap.size<=b):=by
 obtain ⟨a,cap,rfl,bl,bm,ha⟩:=hv.shape;have J:=zad w (Obj.cells #[.string t.key,.string t.end_,.int .i64 t.frm,.bool t.np,.bool t.nd,.bool t.prev] 29) _ rfl;have a7:Fr No w (w.alloc (Obj.cells #[.string t.key,.string t.end_,.int .i64 t.frm,.bool t.np,.bool t.nd,.bool t.prev] 29)):=(Fr.refl No w).alloc _;have HV:=H_ hv;have HA:=H_ ha;have ar:=H_ J;have M:=H_ a7;clear hv ha J a7;obtain ⟨i0,a8,ag,ah,ai⟩:=info_parts info72;unfold wtV;go_enter Tryz.func44,Tryz.ntmps44;go_upto_region 1 with fail;generalize w.alloc (Obj.cells #[.string t.key,.string t.end_,.int .i64 t.frm,.bool t.np,.bool t.nd,.bool t.prev] 29)=W0 at *;go_wp2_with fail
 go_loopg [5,7,10] l.length (fun g s5 _ s10 wr=>∃ (i:Nat) (O:List Ev),s10=.int .i64 i/\i+g=l.length/\Hid (O=wantsW t (l.take i))/\Hid (SlF wr 72 13 evC s5 O)/\Hid (Fr No W0 wr)/\Hid (∀ b,s5.ownBlock=some b->W0.heap.size<=b))
 case atStart=>exact ⟨0,[],rfl,by simp,H_ rfl,H_ (SlF.nil _ _ _ _),H_ (Fr.refl No W0),H_ (by simp [Value.ownBlock])⟩
 case round =>
  obtain ⟨i,O,rfl,hi,Z,HO,HF,HN⟩:=hrel
  cases gk with
  | zero =>
    have aJ:¬ (i:Int)<(l.length:Int):=(by omega);have aI:l.take i=l:=List.take_of_length_le (by omega);go_wp2_with fail;go_ret;have h:=Z.out;rw [aI] at h;refine ⟨_,rfl,by rw [<-h];exact HO.out,M.out.trans0 HF.out,fun b hb=>?_⟩;have:=HN.out b hb;have:=M.out.size;omega
  | succ q =>
    obtain ⟨g,o,rfl⟩:=HA.out (by omega);obtain ⟨x,f⟩:∃ x,l[i]?=some x:=⟨_,gG_ (by omega)⟩;have aJ:(i:Int)<(l.length:Int):=(by omega);have C:=(HV.out.fr0 M.out).fr0 HF.out;have c0:=C.cell0 zaa i f rfl;have c1:=C.cell zaa i 1 f rfl;have c2:=C.cell zaa i 2 f rfl;have c3:=C.cell zaa i 3 f rfl;have c4:=C.cell zaa i 4 f rfl;have c5:=C.cell zaa i 5 f rfl;have c6:=C.cell zaa i 6 f rfl;have c7:=C.cell zaa i 7 f rfl;have c8:=C.cell zaa i 8 f rfl;have c9:=C.cell zaa i 9 f rfl;have aB:=C.cell zaa i 10 f rfl;have aC:=C.cell zaa i 11 f rfl;have aD:=C.cell zaa i 12 f rfl;have lg:=gB_ _ _ c0;have ab:=zia t f;have A:=H_ ab;obtain ⟨k,⟨m,r,s,n,y,z⟩,⟨D,E,F,G,H,I⟩⟩:=x;dsimp only at *;clear C ab
    have U:=HF.out.alloc (Obj.cells #[Value.int .i64 k,.string m,.string r,.int .i64 s,.int .i64 n,.int .i64 y,.int .i64 z,.string D,.string E,.int .i64 F,.int .i64 G,.int .i64 H,.int .i64 I] 72);have B:=zad wr (Obj.cells #[Value.int .i64 k,.string m,.string r,.int .i64 s,.int .i64 n,.int .i64 y,.int .i64 z,.string D,.string E,.int .i64 F,.int .i64 G,.int .i64 H,.int .i64 I] 72) _ rfl;have ad:=HO.out.alloc (Obj.cells #[Value.int .i64 k,.string m,.string r,.int .i64 s,.int .i64 n,.int .i64 y,.int .i64 z,.string D,.string E,.int .i64 F,.int .i64 G,.int .i64 H,.int .i64 I] 72);go_upto_region 5 with fail
    generalize wr.alloc (Obj.cells #[Value.int .i64 k,.string m,.string r,.int .i64 s,.int .i64 n,.int .i64 y,.int .i64 z,.string D,.string E,.int .i64 F,.int .i64 G,.int .i64 H,.int .i64 I] 72)=d at *;obtain ⟨b,hb⟩:∃ b,wr.heap.size=b:=⟨_,rfl⟩;have J:=U.heap ar.out id;obtain ⟨t0,t1,t2,t3,t4,t5⟩:=cells6 J;have aM:=zab J;have bn:W0.heap.size<=b:=(by rw [<-hb];exact HF.out.size);rw [hb] at B ⊢
    have e0:d.cell? ⟨b,0,none⟩=some (.int .i64 k):=cellAt B 0 rfl;have e1:d.cell? ⟨b,1,none⟩=some (.string m):=cellAt B 1 rfl;have e4:d.cell? ⟨b,4,none⟩=some (.int .i64 n):=cellAt B 4 rfl;have lb:=zab B;have ay:Hid (∀ x,u5.ownBlock=some x->x≠b):=H_ fun x f e=>by have:=HO.out.lt x f;omega
    have c:=H_ B;have Q:=H_ ad;have N:=H_ U;clear c0 c1 c2 c3 c4 c5 c6 c7 c8 c9 aB aC aD lg J B ad U hb;have hw:wantB t ⟨k,⟨m,r,s,n,y,z⟩,⟨D,E,F,G,H,I⟩⟩ = !(decide (n<t.frm) || !inB m t.key t.end_||(decide (k=1)&&t.np)||(decide (k=2)&&t.nd)):=rfl;have a9:=fun W=>zsc W m t.key t.end_;have av:=H_ a9;clear a9;generalize wantB t ⟨k,⟨m,r,s,n,y,z⟩,⟨D,E,F,G,H,I⟩⟩=bw at *;obtain ⟨q0,Y⟩:∃ x,k=x:=⟨_,rfl⟩;obtain ⟨np,X⟩:∃ x,t.np=x:=⟨_,rfl⟩;obtain ⟨nd,V⟩:∃ x,t.nd=x:=⟨_,rfl⟩;rw [Y,X,V] at hw;rw [Y] at e0;rw [X] at t3;rw [V] at t4;have HW:=H_ hw;clear hw Y X V
    go_cut [48] (fun s48 wx=>s48=.bool (!bw)/\wx=d)
    case first =>
     go_wp2_with (go_at_call 75;(with_reducible refine (av.out _).mono ?_);rintro e w1 ⟨rfl,rfl⟩)
     all_goals
      go_meet
      case rel =>
       refine ⟨?_,rfl⟩;rw [HW.out,Bool.not_not]
       congr 1
       simp [*]
    case rest =>
    obtain ⟨rfl,af⟩:=hcut;rw [af];clear af e0 t3 t4;have e0:d.cell? ⟨b,0,none⟩=some (.int .i64 k):=cellAt c.out 0 rfl
    cases bw with
    | false =>
      rw [if_neg (by decide)] at A;go_wp2_with fail;go_roundg q
      case rel=>exact ⟨i+1,O,by go_num,by omega,H_ (by rw [A.out,Z.out]),Q,N,HN⟩
      case measure=>omega
    | true =>
      rw [if_pos rfl] at A;by_cases hpv:t.prev=true
      · have L:handE t ⟨k,⟨m,r,s,n,y,z⟩,⟨D,E,F,G,H,I⟩⟩=⟨k,⟨m,r,s,n,y,z⟩,⟨D,E,F,G,H,I⟩⟩:=by unfold handE;rw [if_pos hpv]
        rw [L] at A;have aj:d.cell? ⟨w.heap.size,5,none⟩=some (.bool true):=(by rw [t5,hpv]);have az:=H_ hpv;clear t5;have e2:d.cell? ⟨b,2,none⟩=some (.string r):=cellAt c.out 2 rfl;have e3:d.cell? ⟨b,3,none⟩=some (.int .i64 s):=cellAt c.out 3 rfl;have e5:d.cell? ⟨b,5,none⟩=some (.int .i64 y):=cellAt c.out 5 rfl;have e6:d.cell? ⟨b,6,none⟩=some (.int .i64 z):=cellAt c.out 6 rfl;have e7:d.cell? ⟨b,7,none⟩=some (.string D):=cellAt c.out 7 rfl;have e8:d.cell? ⟨b,8,none⟩=some (.string E):=cellAt c.out 8 rfl;have e9:d.cell? ⟨b,9,none⟩=some (.int .i64 F):=cellAt c.out 9 rfl;have a3:d.cell? ⟨b,10,none⟩=some (.int .i64 G):=cellAt c.out 10 rfl;have a4:d.cell? ⟨b,11,none⟩=some (.int .i64 H):=cellAt c.out 11 rfl
        have a5:d.cell? ⟨b,12,none⟩=some (.int .i64 I):=cellAt c.out 12 rfl;have K:Hid (O.length<=4000000):=H_ (by rw [Z.out];exact nT_ (zcf _ _) (nT_ (List.length_take_le _ _) (by omega)));have aa:=zav d (evC ⟨k,⟨m,r,s,n,y,z⟩,⟨D,E,F,G,H,I⟩⟩) 72 (0,0);have P:=H_ aa;clear aa L hpv;go_wp2_with (at_builtin;refine zbd rfl _ _ 41 rfl 72 i0 _ 13 136 Tryz.underlying41 a8 ag ah ai rfl (by decide) _ O rfl (Q.out.alloc _) W0 HN.out (N.out.alloc _) d.heap.size 1 ⟨k,⟨m,r,s,n,y,z⟩,⟨D,E,F,G,H,I⟩⟩ rfl P.out rfl ?c1 (by have:=K.out;unfold maxLen;omega) (by have:=K.out;omega) ?_)
        case c1=>intro u hu;simp [evC,kvC] at hu;rcases hu with h | h | h | h | h | h | h | h | h | h | h | h | h <;> (rw [h];rfl)
        rintro g1 o1 a2 w2 S aH R aK;go_wp2;go_roundg q
        case rel=>exact ⟨i+1,O++[⟨k,⟨m,r,s,n,y,z⟩,⟨D,E,F,G,H,I⟩⟩],by go_num,by omega,H_ (by rw [A.out,Z.out]),H_ (by simpa using S),H_ R,H_ (by intro x f;simp [Value.ownBlock] at f;omega)⟩
        case measure=>omega
      have L:handE t ⟨k,⟨m,r,s,n,y,z⟩,⟨D,E,F,G,H,I⟩⟩=⟨k,⟨m,r,s,n,y,z⟩,kv0⟩:=by unfold handE;rw [if_neg hpv]
      rw [L] at A;have aj:d.cell? ⟨w.heap.size,5,none⟩=some (.bool false):=(by rw [t5];simpa using hpv);have az:=H_ hpv;clear t5 hpv L;have fr:∀ j,d.frozen? ⟨b,j,none⟩=false:=fun j=>by unfold World.frozen?;rw [c.out];simp
      have f7:=fr 7;have e7:d.cell? ⟨b,7,none⟩=some (.string D):=cellAt c.out 7 rfl;have f8:=fr 8;have e8:d.cell? ⟨b,8,none⟩=some (.string E):=cellAt c.out 8 rfl;have f9:=fr 9;have e9:d.cell? ⟨b,9,none⟩=some (.int .i64 F):=cellAt c.out 9 rfl;have aE:=fr 10;have a3:d.cell? ⟨b,10,none⟩=some (.int .i64 G):=cellAt c.out 10 rfl;have aF:=fr 11;have a4:d.cell? ⟨b,11,none⟩=some (.int .i64 H):=cellAt c.out 11 rfl;have aG:=fr 12;have a5:d.cell? ⟨b,12,none⟩=some (.int .i64 I):=cellAt c.out 12 rfl;clear fr;go_upto_region 8 with fail;have x7:=zac c.out 7 (.string ⟨#[]⟩);have x8:=zac x7 8 (.string ⟨#[]⟩);have x9:=zac x8 9 (.int .i64 0);have ak:=zac x9 10 (.int .i64 0);have al:=zac ak 11 (.int .i64 0);have am:=zac al 12 (.int .i64 0)
      have T:Fr (fun x=>x=b) d ((((((d.setCell ⟨b,7,none⟩ (.string ⟨#[]⟩)).setCell ⟨b,8,none⟩ (.string ⟨#[]⟩)).setCell ⟨b,9,none⟩ (.int .i64 0)).setCell ⟨b,10,none⟩ (.int .i64 0)).setCell ⟨b,11,none⟩ (.int .i64 0)).setCell ⟨b,12,none⟩ (.int .i64 0)):=((((((Fr.refl (fun x=>x=b) d).setCell (p:=⟨b,7,none⟩) (.inl rfl) _).setCell (p:=⟨b,8,none⟩) (.inl rfl) _).setCell (p:=⟨b,9,none⟩) (.inl rfl) _).setCell (p:=⟨b,10,none⟩) (.inl rfl) _).setCell (p:=⟨b,11,none⟩) (.inl rfl) _).setCell (p:=⟨b,12,none⟩) (.inl rfl) _;generalize ((((((d.setCell ⟨b,7,none⟩ (.string ⟨#[]⟩)).setCell ⟨b,8,none⟩ (.string ⟨#[]⟩)).setCell ⟨b,9,none⟩ (.int .i64 0)).setCell ⟨b,10,none⟩ (.int .i64 0)).setCell ⟨b,11,none⟩ (.int .i64 0)).setCell ⟨b,12,none⟩ (.int .i64 0))=W2 at *;clear x7 x8 x9 ak al
      have a1:Hid (W2.heap[b]?=some (.cells #[Value.int .i64 k,.string m,.string r,.int .i64 s,.int .i64 n,.int .i64 y,.int .i64 z,.string ⟨#[]⟩,.string ⟨#[]⟩,.int .i64 0,.int .i64 0,.int .i64 0,.int .i64 0] 72 (0,0))):=H_ am;have au:=H_ (N.out.trans T fun x f e=>by have e':x=b:=e;omega);have ax:=H_ (Q.out.fr T fun x f e=>ay.out x f e);clear am e0 e1 e4 e7 e8 e9 a3 a4 a5 f7 f8 f9 aE aF aG t0 t1 t2 aj aM lb T;have lb:=zab a1.out;obtain ⟨g0,g1,g2,g3,g4,g5,g6,g7,g8,g9,bi,bj,bk⟩:=cells13 a1.out;have K:Hid (O.length<=4000000):=H_ (by rw [Z.out];exact nT_ (zcf _ _) (nT_ (List.length_take_le _ _) (by omega)));have P:=H_ (zav W2 (evC ⟨k,⟨m,r,s,n,y,z⟩,kv0⟩) 72 (0,0))
      go_wp2_with (at_builtin;refine zbd rfl _ _ 41 rfl 72 i0 _ 13 136 Tryz.underlying41 a8 ag ah ai rfl (by decide) _ O rfl (ax.out.alloc _) W0 HN.out (au.out.alloc _) W2.heap.size 1 ⟨k,⟨m,r,s,n,y,z⟩,kv0⟩ rfl P.out rfl ?c1 (by have:=K.out;unfold maxLen;omega) (by have:=K.out;omega) ?_)
      case c1=>intro u hu;simp [evC,kvC,kv0] at hu;rcases hu with h | h | h | h | h | h | h | h | h <;> (rw [h];rfl)
      rintro g1 o1 a2 w2 S aH R aK;go_wp2;go_roundg q
      case rel=>exact ⟨i+1,O++[⟨k,⟨m,r,s,n,y,z⟩,kv0⟩],by go_num,by omega,H_ (by rw [A.out,Z.out]),H_ (by simpa using S),H_ R,H_ (by intro x f;simp [Value.ownBlock] at f;omega)⟩
      case measure=>omega
open Go Go.Proofs
theorem zak {P:Program} {C:World->Prop} {id:Nat} {Q:Exit->Act->World->Prop} {a:Act} {w:World} {l:List Oper} (hm:P.follows .mixedOrders=true) (hB:Region.lexB .any l.toArray=true)
 (hC:C w.drew) (h:wpQuiet P l.toArray C (fun a'=>∀ w',C w'->Q .normal a' w') l a):(Code.region id l.toArray true).wp P Q a w :=
 wp_region_quiet hm hB hC (by simpa using h)
end Go.Proofs.YtdgkdfmfoonbpaaGreat