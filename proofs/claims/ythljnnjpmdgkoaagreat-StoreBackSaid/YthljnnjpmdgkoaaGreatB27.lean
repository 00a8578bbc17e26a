/- Own lemmas and contracts that the claim's proof needs, laid together. The conditions stand in each. -/
import Derived.Test.YthljnnjpmdgkoaaGreatB26
import Derived.Test.YthljnnjpmdgkoaaGreatB09
import Derived.Test.YthljnnjpmdgkoaaGreatB24
import Derived.Test.YthljnnjpmdgkoaaGreatB17
import Derived.Test.YthljnnjpmdgkoaaGreatB16
import Derived.Test.YthljnnjpmdgkoaaGreatB15
import Derived.Test.YthljnnjpmdgkoaaGreatB18
import Derived.Test.YthljnnjpmdgkoaaGreatB14
import Derived.StringKeys
import Derived.Maps.Keyed
import Derived.Deep.CutBlock
import Derived.WalkLawsBesides
import Derived.Lib.RuneCountTail
import Derived.Laws.Runes
import Derived.PlainAid
import Derived.Deep.DeepCutAuto
import Derived.Deep.RegionHeld3
import Derived.Deep.QuietTactic
import Derived.BigQuiet
namespace Go.Proofs.YthljnnjpmdgkoaaGreat
open Go Go.Proofs Go.RowKit
set_option maxRecDepth 100000
def donesT (l:List CalQ) (i:Nat):St × Doc:=(l.take i).foldl (fun p q=>(doT p.1 q,doD p.1 p.2 q)) (newS,newD)
theorem zcx (l:List CalQ) {i:Nat} {q:CalQ} (h:l[i]? = some q):donesT l (i+1)=(doT (donesT l i).1 q,doD (donesT l i).1 (donesT l i).2 q):=by
 unfold donesT;rw [List.take_add_one,h,List.foldl_append]
 rfl
theorem zaz {l:List CalQ} (h:zbi l=true):l.length<=30/\∀ q∈l,fewCal q=true:=by
 unfold zbi at h;simpa [Bool.and_eq_true] using h
theorem zcc {l:List CalQ} (h:zbi l=true):∀ i≤ l.length,Good i (donesT l i).1 (donesT l i).2:=by
 obtain ⟨h1,h2⟩:=zaz h;intro i
 induction i with
 | zero=>intro _;exact Good.new
 | succ i ih =>
   intro hi;obtain ⟨q,hq⟩:∃ q,l[i]? = some q:=⟨_,List.getElem?_eq_getElem (by omega)⟩;rw [zcx l hq];exact (ih (by omega)).does (by omega) (h2 q (List.mem_of_getElem? hq))
theorem SlR.lt {α:Type} {f:α->List Value} {w:World} {sz:Nat} {v:Value} {L:List α} (h:SlR w sz f v L) (hf:∀ x,(f x).length=sz) (hsz:0 < sz) (hp:0 < L.length):∀ b,v.ownBlock=some b->b < w.heap.size:=by
 intro b hb;obtain ⟨a,cap,rfl,h1,h2,h3⟩:=h;obtain ⟨g,o,rfl,h4⟩:=h3 hp;obtain rfl:g=b:=by simpa [Value.ownBlock] using hb
 have hx:L[0]? = some L[0]:=List.getElem?_eq_getElem hp;have hl:0 < (f L[0]).length:=by rw [hf];exact hsz
 exact World.block_lt_of_cell? _ _ (h4 0 _ hx 0 _ (List.getElem?_eq_getElem hl))
set_option maxHeartbeats 4000000 in
theorem zqx {TA:zar} (hT:TreeOk TA 1000000) (hTD:TreeDl TA) (w:World) (v:Value) (l:List CalQ) (hv:CalR w v l) (hf:zbi l=true) :
 Calls Tryz.prog 26 #[v] w fun e w'=>∃ s,e = .returned (.pointer (some ⟨s,0,none⟩))/\∃ F,zak TA w' s (donesT l l.length).1 F/\Fr No w w'/\∀ b,F b->w.heap.size<=b:=by
 obtain ⟨h1,h2⟩:=zaz hf;have hgd:=zcc hf;obtain ⟨hv,hops,hkeys⟩:=hv;obtain ⟨a,cap,rfl,hc1,hc2,ha⟩:=hv.shape;have HV:=H_ hv;have HA:=H_ ha;have HO:=H_ hops;have HK:=H_ hkeys;have HG:=H_ hgd;have H2:=H_ h2;clear hv ha hops hkeys hgd hf h2;go_enter Tryz.func26,Tryz.ntmps26;go_wp2_with (go_at_call 17;refine (zdd hT _).mono ?_;rintro e w1 ⟨s,rfl,F0,hs0,hf1,hn0⟩);have HS0:Hid (zak TA w1 s (donesT l 0).1 F0):=H_ hs0;have HN0:=H_ hn0;clear hs0 hn0
 go_loopg [4] l.length (fun g s4 wr=>∃ (i:Nat) (F:Nat->Prop),s4 = .int .i64 i/\i+g=l.length/\Hid (zak TA wr s (donesT l i).1 F)/\Hid (Fr No w wr)/\Hid (∀ b,F b->w.heap.size<=b))
 case atStart=>exact ⟨0,F0,rfl,by simp,HS0,H_ hf1,HN0⟩
 case round =>
  obtain ⟨i,F,rfl,hi,HS,HF,HN⟩:=hrel
  cases gk with
  | zero =>
    have hil:¬ (i:Int) < (l.length:Int):=(by omega);have hie:i=l.length:=(by omega);subst hie;go_wp2;go_ret;exact ⟨s,rfl,F,HS.out,HF.out,HN.out⟩
  | succ g =>
    obtain ⟨gb,go,rfl⟩:=HA.out (by omega);obtain ⟨q,hx⟩:∃ q,l[i]? = some q:=⟨_,List.getElem?_eq_getElem (by omega)⟩;have hvr:=HV.out.fr0 HF.out;have x0:=hvr.cell0 zam i hx rfl;have x1:=hvr.cell zam i 1 hx rfl;have x2:=hvr.cell zam i 2 hx rfl;have x3:=hvr.cell zam i 3 hx rfl;have x4:=hvr.cell zam i 4 hx rfl;have x5:=hvr.cell zam i 5 hx rfl;have x6:=hvr.cell zam i 6 hx rfl;have x7:=hvr.cell zam i 7 hx rfl;have x8:=hvr.cell zam i 8 hx rfl;have x9:=hvr.cell zam i 9 hx rfl;have x10:=hvr.cell zam i 10 hx rfl;have x11:=hvr.cell zam i 11 hx rfl;have hil:(i:Int) < (l.length:Int):=(by omega);have hops:=HO.out i q hx;have hkeys:=HK.out i q hx
    have hdo:=zkv hT hTD (HG.out i (by omega)) (by omega) wr s F HS.out q (H2.out q (List.mem_of_getElem? hx)) (hops.fr0 HF.out) (hkeys.fr0 HF.out)
     (fun hp b hb hF=>by have:=hops.lt zaf (by decide) hp b hb;have:=HN.out b hF;omega) (fun hp b hb hF=>by have:=hkeys.lt zbs (by decide) hp b hb;have:=HN.out b hF;omega)
    have hsu:=zcx l hx;obtain ⟨oa,ocap,hos,_,_,_⟩:=hops.shape;obtain ⟨ka,kcap,hks,_,_,_⟩:=hkeys.shape;have HDO:=H_ hdo;have HSU:=H_ hsu;clear hdo hsu hx hvr hops hkeys;obtain ⟨⟨p1,p2,⟨g1,g2,g3,g4,g5,g6,g7⟩,p3,p4,p5⟩,ops,keys⟩:=q;dsimp only at hos hks;subst hos hks;unfold calC rgC at *;dsimp only at *;go_wp2_with (go_at_call 27;refine HDO.out.mono ?_;rintro e w2 ⟨rfl,F2,hs2,hf2,hn2⟩);go_roundg g
    case rel =>
     have hsz:=HF.out.size
     exact ⟨i+1,F2,by go_num,by omega,H_ (by rw [HSU.out];exact hs2),H_ (HF.out.trans hf2 fun b hb h=>by have:=HN.out b h;omega),H_ fun b hb=>by
      rcases hn2 b hb with h | h
      · exact HN.out b h
      omega⟩
    case measure=>omega
open Go Go.RowKit Go.WideElems Go.ChangeMaps Go.WideMaps
def MapS (w:World) (b:Nat) (f:ByteArray->Option Value):Prop :=
 ∃ es clock,w.heap[b]? = some (.map es clock)/\MapKept.Stamped es clock/\(∀ e∈es.toList,∃ n,e.key = .string n/\n.size<=maxLen/\f n=some e.val) ∧
  ∀ n v,f n=some v->∃ e∈es.toList,e.key = .string n/\e.val=v
theorem MapS.lt {w:World} {b:Nat} {f:ByteArray->Option Value} (h:MapS w b f):b < w.heap.size:=by
 obtain ⟨es,clock,hb,_⟩:=h;exact zac hb
theorem MapS.fr {w w':World} {b:Nat} {f:ByteArray->Option Value} {S:Nat->Prop} (h:MapS w b f) (hf:Fr S w w') (hn:¬ S b):MapS w' b f:=by
 have hlt:=h.lt;obtain ⟨es,clock,hb,h2⟩:=h;exact ⟨es,clock,by rw [hf.block b hlt hn];exact hb,h2⟩
theorem MapS.made (w:World):MapS (w.alloc (.map #[] 0)) w.heap.size fun _=>none :=
 ⟨#[],0,zad _ _ _ rfl,MapKept.stamped_empty 0,by simp,by simp⟩
section
variable {P:Program} {w:World} {b:Nat} {f:ByteArray->Option Value} {t k e:TypeId}
theorem zpl (hk:P.underlying k=some .string) {es:List MapEntry} (h:∀ e∈es,∃ n,e.key = .string n/\n.size<=maxLen/\f n=some e.val):∀ e∈es,∃ l,keyOf P k e.key=some l:=by
 intro e he;obtain ⟨n,h1,h2,_⟩:=h e he;exact ⟨_,by rw [h1];exact keyOf_string_mk hk h2⟩
theorem MapS.look (h:MapS w b f) (ht:P.underlying t=some (.map k e)) (hk:P.underlying k=some .string) {n:ByteArray} (hn:n.size<=maxLen) {z:Value} (hz:(zeroValue e).run P w = .ok z w) :
 (Instr.lookup t (.map (some b)) (.string n) false).run P w = .ok ((f n).getD z) w:=by
 obtain ⟨es,clock,hb,hst,h1,h2⟩:=h;have K:=Maps.string_keyed hk;have hkey:=keyOf_string_mk hk hn;rcases K.find w hkey es.toList (zpl hk h1) with ⟨g1,g2⟩ | ⟨j,e0,g1,g2,g3⟩
 · have:f n=none:=by
    cases hf:f n with
    | none=>rfl
    | some v =>
      obtain ⟨e1,he1,hek,_⟩:=h2 n v hf;exact absurd hek (g2 e1 he1)
   simp [Instr.lookup,run_underlying ht,MapKept.run_getObj_map hb,K.check w _ hkey,g1,hz,Result.andThen,this]
 obtain ⟨m,hm,_,hfm⟩:=h1 e0 (List.mem_of_getElem? g2)
 rw [g3] at hm;cases hm;simp [Instr.lookup,run_underlying ht,MapKept.run_getObj_map hb,K.check w _ hkey,g1,Result.andThen,hfm]
theorem MapS.store (h:MapS w b f) (ht:P.underlying t=some (.map k e)) (hk:P.underlying k=some .string) {n:ByteArray} (hn:n.size<=maxLen) (v:Value) :
 ∃ w',(Instr.mapUpdate t (.map (some b)) (.string n) v).run P w = .ok () w'/\MapS w' b (fun m=>if m=n then some v else f m)/\Fr (fun x=>x=b) w w'/\w'.heap.size=w.heap.size:=by
 obtain ⟨es,clock,hb,hst,h1,h2⟩:=h;have K:=Maps.string_keyed hk;have hkey:=keyOf_string_mk hk hn;have hfr:∀ o,Fr (fun x=>x=b) w (setBlock w b o):=fun o=>⟨rfl,rfl,rfl,by simp [setBlock],fun i _ hi=>heap_setBlock_other hb _ hi⟩;rcases K.find w hkey es.toList (zpl hk h1) with ⟨g1,g2⟩ | ⟨j,e0,g1,g2,g3⟩
 · refine ⟨setBlock w b (.map (es.push ⟨.string n,v,clock⟩) (clock+1)),?_,⟨_,_,heap_setBlock_same hb _,MapKept.stamped_push hst g2,?_,?_⟩,hfr _,by simp [setBlock]⟩
   · simp [Instr.mapUpdate,run_underlying ht,MapKept.run_getObj_map hb,K.check w false hkey,g1,MapKept.run_setObj_map _ hb,Result.andThen,setBlock]
   · intro x hx
     simp only [Array.toList_push,List.mem_append,List.mem_singleton] at hx;rcases hx with hx | rfl
     · obtain ⟨m,e1,e2,e3⟩:=h1 x hx
       refine ⟨m,e1,e2,?_⟩;dsimp only;rw [if_neg (fun e=>g2 x hx (by rw [e1,e]))];exact e3
     exact ⟨n,rfl,hn,by simp⟩
   intro m u hu
   simp only [Array.toList_push,List.mem_append,List.mem_singleton];by_cases hmn:m=n
   · subst hmn
     simp at hu;subst hu;exact ⟨_,.inr rfl,rfl,rfl⟩
   dsimp only at hu
   rw [if_neg hmn] at hu;obtain ⟨x,hx,hx'⟩:=h2 m u hu;exact ⟨x,.inl hx,hx'⟩
 have hj:es[j]? = some e0:=by simpa using g2
 have hjl:j < es.size:=(Array.getElem?_eq_some_iff.1 hj).1;have hkeyf:∀ e',es[j]? = some e'->({ e' with key:=.string n,val:=v }:MapEntry).key=e'.key:=fun e' he'=>by rw [hj] at he';cases he';exact g3.symm
 have hnd:es.toList.Pairwise (fun x y=>x.key≠y.key):=((MapKept.stamped_iff _ _).1 hst).2.2
 have hother:∀ i x,es[i]? = some x->i≠j->x.key ≠ .string n:=by
  intro i x hx hij e1;have hil:=(Array.getElem?_eq_some_iff.1 hx).1;rw [List.pairwise_iff_getElem] at hnd;have ex:es[i] = x:=(Array.getElem?_eq_some_iff.1 hx).2;have e0':es[j] = e0:=(Array.getElem?_eq_some_iff.1 hj).2;rcases Nat.lt_or_gt_of_ne hij with h | h
  · exact hnd i j (by simpa using hil) (by simpa using hjl) h (by simp [ex,e0',e1,g3])
  exact hnd j i (by simpa using hjl) (by simpa using hil) h (by simp [ex,e0',e1,g3])
 refine ⟨setBlock w b (.map (es.modify j (fun e'=>{ e' with key:=.string n,val:=v })) clock),?_,
  ⟨_,_,heap_setBlock_same hb _,MapKept.stamped_modify hst _ _ (fun _ _=>rfl) (fun e' _ he'=>hkeyf e' he'),?_,?_⟩,hfr _,by simp [setBlock]⟩
 · simp [Instr.mapUpdate,run_underlying ht,MapKept.run_getObj_map hb,K.check w false hkey,g1,hj,g3,K.stays w hkey,MapKept.run_setObj_map _ hb,Result.andThen,setBlock]
 · intro x hx
   obtain ⟨i,hi⟩:=List.getElem?_of_mem hx;have hi':(es.modify j (fun e'=>{ e' with key:=.string n,val:=v }))[i]? = some x:=(by rw [Array.getElem?_toList] at hi;exact hi);rw [Array.getElem?_modify] at hi';by_cases hji:j=i
   · rw [if_pos hji] at hi'
     obtain ⟨y,hy,rfl⟩:=Option.map_eq_some_iff.1 hi';exact ⟨n,rfl,hn,by simp⟩
   rw [if_neg hji] at hi'
   obtain ⟨m,e1,e2,e3⟩:=h1 x (List.mem_of_getElem? (by simpa using hi'));refine ⟨m,e1,e2,?_⟩;dsimp only;rw [if_neg (fun e=>hother i x hi' (fun e'=>hji e'.symm) (by rw [e1,e]))];exact e3
 intro m u hu
 by_cases hmn:m=n
 · subst hmn
   simp at hu;subst hu;refine ⟨{ e0 with key:=.string m,val:=v },?_,rfl,rfl⟩;refine List.mem_of_getElem? (i:=j) ?_;have:(es.modify j (fun e'=>{ e' with key:=.string m,val:=v }))[j]? = some { e0 with key:=.string m,val:=v }:=(by rw [Array.getElem?_modify,if_pos rfl,hj];rfl);rw [Array.getElem?_toList];exact this
 dsimp only at hu
 rw [if_neg hmn] at hu;obtain ⟨x,hx,hx1,hx2⟩:=h2 m u hu;obtain ⟨i,hi⟩:=List.getElem?_of_mem hx;have hi':es[i]? = some x:=(by simpa using hi)
 have hij:j≠i:=by
  rintro rfl;rw [hj] at hi';cases hi';rw [g3] at hx1;cases hx1;exact hmn rfl
 refine ⟨x,List.mem_of_getElem? (i:=i) ?_,hx1,hx2⟩;have:(es.modify j (fun e'=>{ e' with key:=.string n,val:=v }))[i]? = some x:=(by rw [Array.getElem?_modify,if_neg hij];exact hi');rw [Array.getElem?_toList];exact this
end
theorem zjv {P:Program} {w:World} {ops:Array Oper} {rest:List Oper} {o:Oper} {a:Act} {Q:Exit->Act->World->Prop} (hg:o.guard=none) (m x v:Operand) (t:TypeId) (hop:o.op=Op.mapUpdate t m x v)
 (k e:TypeId) (ht:P.underlying t=some (.map k e)) (hk:P.underlying k=some .string) (b:Nat) (f:ByteArray->Option Value) (hm:a.eval m = .map (some b)) (h:MapS w b f) (n:ByteArray) (hx:a.eval x = .string n)
 (hn:n.size<=maxLen) (u:Value) (hv:a.eval v=u)
 (hK:∀ w',MapS w' b (fun m=>if m=n then some u else f m)->Fr (fun x=>x=b) w w'->w'.heap.size=w.heap.size->wpList P ops Q rest (a.put o.dst undef) w'):wpList P ops Q (o :: rest) a w:=by
 refine wpList_plain hg fun K' hK'=>?_;obtain ⟨w',hrun,r1,r2,r3⟩:=h.store ht hk hn u;unfold Oper.wp;simp [execOp,hop,hm,hx,hv,hrun,Result.andThen];exact hK' _ _ (hK w' r1 r2 r3)
structure KeysOk (D:Doc):Prop where
 kvs:∀ k∈D.kvs,keyE k.key=0
 evs:∀ e∈D.events,keyE e.kv.key=0
theorem KeysOk.at {D:Doc} (h:KeysOk D) (hs:KSorted D.kvs) {r:Int} {y:Kv} (hy:y∈D.at r):keyE y.key=0:=by
 rcases Doc.mem_at hs hy with h1 | ⟨e,h1,_,rfl⟩
 · exact h.kvs y h1
 exact h.evs e h1
theorem KeysOk.cut {D:Doc} (h:KeysOk D) (hs:KSorted D.kvs) (R:Int):KeysOk (D.cut R) :=
 ⟨fun _k hk=>h.at hs hk,fun e he=>h.evs e (List.mem_filter.1 he).1⟩
theorem KeysOk.adds {D:Doc} (h:KeysOk D) {E:List Ev} (hE:∀ e∈E,keyE e.kv.key=0):KeysOk (D.adds E):=by
 obtain ⟨a,b,c⟩:=Doc.adds_parts D E;refine ⟨by rw [b];exact h.kvs,fun e he=>?_⟩;rw [c] at he;rcases List.mem_append.1 he with he | he
 · exact h.evs e he
 exact hE e he
theorem zul {o:Opr} (h:oneE o=0) (hk:o.kind=1):keyE o.rg.key=0:=by
 unfold oneE at h;rw [if_neg (by rw [hk];decide),if_neg (by rw [hk];decide),if_pos hk] at h
 split at h
 · rename_i hn;exact absurd h hn
 rename_i hn;exact Classical.not_not.1 hn
theorem RunOk.ks {c n:Nat} {D:Doc} {P:List Opr} {S:St} {E:List Ev} (h:RunOk c n D P S E):KSorted D.kvs:=by
 have:=h.cpl.ks
 rwa [(Doc.adds_parts D E).2.1] at this
theorem zsv {c n:Nat} {D:Doc} {P:List Opr} {r:Run} (h:RunOk c n D P r.S r.E) (hD:KeysOk D) (hmk:D.mark<=D.rev) (o:Opr) (ho:oneE o=0) (hE:∀ e∈r.E,keyE e.kv.key=0) :
 ∀ e∈(stepR (D.rev+1) r o).E,keyE e.kv.key=0:=by
 have hks:=h.ks;unfold stepR;by_cases h1:o.kind=1
 · rw [if_pos h1]
   intro e he;rcases List.mem_append.1 he with he | he
   · exact hE e he
   rw [List.mem_singleton.1 he]
   exact zul ho h1
 rw [if_neg h1]
 by_cases h2:o.kind=2
 · rw [if_pos h2]
   intro e he;dsimp only at he;rw [znt] at he;rcases List.mem_append.1 he with he | he
   · exact hE e he
   obtain ⟨x,hx,rfl⟩:=List.mem_map.1 he
   rw [h.between hmk] at hx;exact KeysOk.at (y:=x) (hD.adds hE) (by rw [(Doc.adds_parts D r.E).2.1];exact hks) (List.mem_filter.1 hx).1
 rw [if_neg h2]
 split <;> exact hE
theorem Good.keys_does {k:Nat} {S:St} {D:Doc} (h:Good k S D) (hk:k<=70) {q:CalQ} (hq:fewCal q=true) (hD:KeysOk D):KeysOk (doD S D q):=by
 obtain ⟨f1,f2,f3,f4,f5⟩:=zdl hq;have hm0:=h.cpl.m0;unfold doD;by_cases h4:kindN q.1.kind=4
 · rw [if_pos h4];exact hD
 rw [if_neg h4]
 by_cases h5:kindN q.1.kind=5
 · rw [if_pos h5]
   split
   · exact hD.cut h.cpl.ks _
   exact hD
 rw [if_neg h5]
 by_cases h6:kindN q.1.kind=6
 · rw [if_pos h6];exact hD
 rw [if_neg h6]
 by_cases h7:kindN q.1.kind=7
 · rw [if_pos h7]
   refine hD.adds ?_
   have key:∀ i≤ q.2.2.length,∀ e∈(dropTo (D.rev+1) S q.2.2 i).2,keyE e.kv.key=0:=by
    intro i
    induction i with
    | zero=>intro _ e he;simp [dropTo] at he
    | succ i ih =>
      intro hi;obtain ⟨x,hx⟩:∃ x,q.2.2[i]? = some x:=⟨_,List.getElem?_eq_getElem (by omega)⟩;obtain ⟨a,_⟩:=h.drops hk q.2.2 f3 i (by omega);have ih':=ih (by omega);rw [zec _ _ _ hx];unfold dropR
      split
      · rename_i hlv
        intro e he;rcases List.mem_append.1 he with he | he
        · exact ih' e he
        rw [List.mem_singleton.1 he]
        show keyE x=0
        have hl:=a.cpl.lives x (D.rev+1) (by rw [(Doc.adds_parts D _).1];omega)
        cases hh:hasL ((D.adds (dropTo (D.rev+1) S q.2.2 i).2).at (D.rev+1)) x with
        | none=>rw [hl,hh] at hlv;cases hlv
        | some y =>
          have hks:KSorted (D.adds (dropTo (D.rev+1) S q.2.2 i).2).kvs:=(by rw [(Doc.adds_parts D _).2.1];exact h.cpl.ks);obtain ⟨y1,y2⟩:=(zbf (Doc.at_sorted hks _) x y).1 hh;rw [<-y2];exact (hD.adds ih').at hks y1
      exact ih'
   have:=key q.2.2.length (Nat.le_refl _);have he:dropTo (D.rev+1) S q.2.2 q.2.2.length=q.2.2.foldl (dropR (D.rev+1)) (S,[]):=(by unfold dropTo;rw [List.take_length]);rw [he] at this;exact this
 rw [if_neg h7]
 by_cases ha:applyE S q.2.1=0
 · rw [if_pos ha]
   refine hD.adds ?_;obtain ⟨_,hone,_⟩:=zcz (zbl ha).1
   have key:∀ i≤ q.2.1.length,∀ e∈(runR (D.rev+1) ⟨S,[],[]⟩ (q.2.1.take i)).E,keyE e.kv.key=0:=by
    intro i
    induction i with
    | zero=>intro _ e he;simp [runR] at he
    | succ i ih =>
      intro hi;obtain ⟨o,ho⟩:∃ o,q.2.1[i]? = some o:=⟨_,List.getElem?_eq_getElem (by omega)⟩;obtain ⟨⟨a,_⟩,_⟩:=h.runs hk (zbl ha).1 (fun o ho=>by have:=(f1 o ho).1;omega) i (by omega);rw [zhv _ _ _ ho];exact zsv a hD hm0.2 o (hone o (List.mem_of_getElem? ho)) (ih (by omega))
   have:=key q.2.1.length (Nat.le_refl _);rw [List.take_length] at this;exact this
 rw [if_neg ha];exact hD
theorem zfg {l:List CalQ} (h:zbi l=true):∀ i≤ l.length,KeysOk (donesT l i).2:=by
 obtain ⟨h1,h2⟩:=zaz h;have hg:=zcc h;intro i
 induction i with
 | zero=>intro _;exact ⟨fun k hk=>by simp [donesT,newD] at hk,fun e he=>by simp [donesT,newD] at he⟩
 | succ i ih =>
   intro hi;obtain ⟨q,hq⟩:∃ q,l[i]? = some q:=⟨_,List.getElem?_eq_getElem (by omega)⟩;rw [zcx l hq];exact (hg i (by omega)).keys_does (by omega) (h2 q (List.mem_of_getElem? hq)) (ih (by omega))
theorem zii {k:ByteArray} (h:keyE k=0):inB k ⟨#[1]⟩ ⟨#[0]⟩=true/\k.size<=64:=by
 have hk:¬ (runes k < 1\/0<=firstIdx k 0)/\¬ 64 < k.size:=by
  unfold keyE at h
  split at h
  · cases h
  rename_i h1
  split at h
  · cases h
  rename_i h2;exact ⟨h1,h2⟩
 refine ⟨?_,by omega⟩
 have hz:k.data.toList.any (· == 0)=false:=by
  rw [<-Go.firstIdx_nonneg];simp only [decide_eq_false_iff_not];exact fun h=>hk.1 (.inr h)
 have hr:¬ runes k < 1:=fun h=>hk.1 (.inl h)
 have hlt:klt k ⟨#[1]⟩=false:=by
  rw [Bool.eq_false_iff];intro hlt;have h1:=zdc.1 hlt
  cases hl:k.data.toList with
  | nil =>
    refine hr ?_
    have:k.size=0:=by
     have:=congrArg List.length hl;simpa using this
    unfold runes;rw [this]
    show (0:Int) < 1
    decide
  | cons a t =>
    rw [hl] at h1 hz;simp only [List.any_cons,Bool.or_eq_false_iff,beq_eq_false_iff_ne] at hz;have h2:a :: t < [1]:=h1;rw [List.cons_lt_cons_iff] at h2;rcases h2 with h2 | ⟨_,h2⟩
    · refine hz.1 ?_
      rw [UInt8.lt_iff_toNat_lt] at h2
      have h3:a.toNat=0:=by
       have:(1:UInt8).toNat=1:=rfl;omega
      exact UInt8.toNat_inj.1 h3
    exact absurd h2 (List.not_lt_nil _)
 unfold inB;rw [if_neg (by rw [Lib.toList_data];simp),if_pos (by rw [Lib.toList_data];rfl)];have:Op.bytesLess k.toList (⟨#[1]⟩:ByteArray).toList=klt k ⟨#[1]⟩:=rfl;rw [this,hlt]
 rfl
theorem zem {k:Nat} {S:St} {D:Doc} (h:Good k S D):zan S S.T S.mark=D.kvs:=by
 have hm:=h.cpl.mark;have h1:=h.cpl.between h.srt ⟨#[]⟩ ⟨#[]⟩ (r:=D.mark) (Int.le_refl _);rw [zgp] at h1;rw [hm,h1]
 have h2:(D.at D.mark).filter (fun y=>rgB ⟨#[]⟩ ⟨#[]⟩ y.key)=D.at D.mark:=by
  rw [List.filter_eq_self];intro y _;unfold rgB;rw [zmi];simp [Lib.toList_data]
 rw [h2]
 unfold Doc.at;have:(D.events.filter fun e=>decide (D.mark < e.kv.mod) && decide (e.kv.mod<=D.mark)) = []:=List.filter_eq_nil_iff.2 fun e _=>by simp <;> omega
 rw [this]
 rfl
def revAt (D:Doc) (i:Nat):Int:=if i=0 then max D.mark 1 - 1 else match D.events[i - 1]? with
 | some p=>p.kv.mod
 | none=>0
def foldTo (D:Doc) (i:Nat):List Kv:=((D.events.take i).filter fun y=>decide (D.mark < y.kv.mod)).foldl doneL D.kvs
theorem zcj {l:List Ev} (h:ESorted l) {i j:Nat} {a b:Ev} (hi:l[i]? = some a) (hj:l[j]? = some b) (hij:i<=j):a.kv.mod<=b.kv.mod:=by
 obtain ⟨i1,i2⟩:=List.getElem?_eq_some_iff.1 hi;obtain ⟨j1,j2⟩:=List.getElem?_eq_some_iff.1 hj;rcases Nat.lt_or_eq_of_le hij with e | e
 · have:=List.pairwise_iff_getElem.1 h i j i1 j1 e
   rw [i2,j2] at this;exact this
 subst e
 rw [i2] at j2;rw [j2];exact Int.le_refl _
theorem DocOk.chain {n:Nat} {D:Doc} (h:DocOk n D) (hm0:0<=D.mark) {i:Nat} {e:Ev} (he:D.events[i]? = some e):e.kv.mod=revAt D i\/e.kv.mod=revAt D i+1:=by
 have hlo:=h.lo e (List.mem_of_getElem? he);unfold revAt;by_cases hi:i=0
 · rw [if_pos hi]
   subst hi
   right
   have hge:max D.mark 1<=e.kv.mod:=(by omega);rcases Int.lt_or_le (max D.mark 1) e.kv.mod with hlt | hle
   · exfalso
     obtain ⟨y,hy,hy2⟩:=h.full (max D.mark 1) (by omega) (by omega) (by omega);obtain ⟨j,hj⟩:=List.mem_iff_getElem?.1 hy;have:=zcj h.es he hj (Nat.zero_le _);omega
   omega
 rw [if_neg hi]
 have hil:=(List.getElem?_eq_some_iff.1 he).1;obtain ⟨p,hp⟩:∃ p,D.events[i - 1]? = some p:=⟨_,List.getElem?_eq_getElem (by omega)⟩;rw [hp];dsimp only;have hplo:=h.lo p (List.mem_of_getElem? hp);have hpe:=zcj h.es hp he (by omega);rcases Int.lt_or_le (p.kv.mod+1) e.kv.mod with hlt | hle
 · exfalso
   obtain ⟨y,hy,hy2⟩:=h.full (p.kv.mod+1) (by omega) (by omega) (by omega);obtain ⟨j,hj⟩:=List.mem_iff_getElem?.1 hy;rcases Nat.lt_or_ge j i with e1 | e1
   · have:=zcj h.es hj hp (by omega);omega
   have:=zcj h.es he hj e1;omega
 omega
theorem zcs {D:Doc} {i:Nat} {e:Ev} (he:D.events[i]? = some e):revAt D (i+1)=e.kv.mod:=by
 unfold revAt;rw [if_neg (by omega),Nat.add_sub_cancel,he]
theorem DocOk.revAt_last {n:Nat} {D:Doc} (h:DocOk n D) (hm0:0<=D.mark) (hm1:D.mark<=D.rev):revAt D D.events.length=D.rev:=by
 rcases Nat.eq_zero_or_pos D.events.length with h0 | h0
 · have hr:D.rev=0:=by
    rcases Int.lt_or_le D.rev 1 with h1 | h1
    · omega
    obtain ⟨y,hy,_⟩:=h.full D.rev h1 hm1 (Int.le_refl _)
    rw [List.eq_nil_of_length_eq_zero h0] at hy;cases hy
   unfold revAt;rw [if_pos h0];omega
 obtain ⟨e,he⟩:∃ e,D.events[D.events.length - 1]? = some e:=⟨_,List.getElem?_eq_getElem (by omega)⟩
 have h1:=zcs he;rw [Nat.sub_add_cancel (by omega)] at h1;rw [h1];have hlo:=h.lo e (List.mem_of_getElem? he);obtain ⟨y,hy,hy2⟩:=h.full D.rev (by omega) hm1 (Int.le_refl _);obtain ⟨j,hj⟩:=List.mem_iff_getElem?.1 hy;have hjl:=(List.getElem?_eq_some_iff.1 hj).1;have:=zcj h.es hj he (by omega);omega
theorem znv {D:Doc} {i:Nat} {e:Ev} (he:D.events[i]? = some e) (hm:¬ D.mark < e.kv.mod):foldTo D (i+1)=foldTo D i:=by
 unfold foldTo;rw [List.take_add_one,he,List.filter_append];simp [hm]
theorem DocOk.prev_at {n:Nat} {D:Doc} (h:DocOk n D) {i:Nat} {e:Ev} (he:D.events[i]? = some e) (hm:D.mark < e.kv.mod):e.prev=(hasL (foldTo D i) e.kv.key).getD kv0:=by
 obtain ⟨hi,hv⟩:=List.getElem?_eq_some_iff.1 he;refine h.prev (D.events.take i) e (D.events.drop (i+1)) ?_ hm;have:=List.take_append_drop i D.events;rw [List.drop_eq_getElem_cons hi,hv] at this;exact this.symm
theorem DocOk.uniq_at {n:Nat} {D:Doc} (h:DocOk n D) {i j:Nat} {a b:Ev} (hi:D.events[i]? = some a) (hj:D.events[j]? = some b) (hij:i < j) (he:a.kv.mod=b.kv.mod):a.kv.key≠b.kv.key:=by
 obtain ⟨i1,i2⟩:=List.getElem?_eq_some_iff.1 hi;obtain ⟨j1,j2⟩:=List.getElem?_eq_some_iff.1 hj;have:=List.pairwise_iff_getElem.1 h.uniq i j i1 j1 hij;rw [i2,j2] at this;exact this he
def sameB (x y:Kv):Bool:=keq x.key y.key && (keq x.value y.value && (x.create == y.create && (x.mod == y.mod && (x.version == y.version && x.lease == y.lease))))
theorem zhi (a:ByteArray):keq a a=true:=zap.2 rfl
theorem zeo {x y:Kv}:sameB x y=true ↔ x=y:=by
 obtain ⟨x1,x2,x3,x4,x5,x6⟩:=x;obtain ⟨y1,y2,y3,y4,y5,y6⟩:=y;unfold sameB;simp only [Bool.and_eq_true,beq_iff_eq,zap,Kv.mk.injEq]
theorem zfc (x:Kv):sameB x x=true:=zeo.2 rfl
def mayB (x:Kv) (rev:Int):Bool :=
 if keyE x.key≠0\/1024 < x.value.size\/x.lease < 0\/x.create < 1\/x.mod < x.create\/rev < x.mod then false
 else if x.mod=x.create then x.version == 1 else decide (2<=x.version) && decide (x.version<=x.mod - x.create+1)
def madeB (x:Ev) (was:Kv) (rev:Int):Bool :=
 if keyE x.kv.key≠0\/x.kv.mod≠rev\/sameB x.prev was=false then false
 else if x.kind=2 then decide (0 < was.version) && sameB x.kv ⟨x.kv.key,ByteArray.empty,0,rev,0,0⟩
 else (x.kind == 1) && ((x.kv.create == if was.version=0 then rev else was.create) && ((x.kv.version == wrap64 (was.version+1)) && (decide (x.kv.value.size<=1024) && decide (0<=x.kv.lease))))
def zgs (x:Ev) (l:List Kv) (mark:Int):Bool :=
 if (sameB x.prev kv0=false/\(keq x.prev.key x.kv.key=false\/mayB x.prev (mark - 1)=false))\/madeB x x.prev mark=false then false
 else if x.kind=1 then sameB ((hasL l x.kv.key).getD kv0) x.kv else ((hasL l x.kv.key).getD kv0).version == 0
structure KvOk (D:Doc) (i:Nat) (k:Kv):Prop where
 may:mayB k D.mark=true
 up:∀ k',0 < i->D.kvs[i - 1]? = some k'->klt k'.key k.key=true
structure EvOk (D:Doc) (i:Nat) (x:Ev):Prop where
 lo:max D.mark 1<=x.kv.mod
 ge:revAt D i<=x.kv.mod
 le:x.kv.mod<=revAt D i+1
 one:∀ j y,j < i->D.events[j]? = some y->y.kv.mod=x.kv.mod->keq y.kv.key x.kv.key=false
 mkd:x.kv.mod=D.mark->zgs x D.kvs D.mark=true
 md:x.kv.mod≠D.mark->madeB x ((hasL (foldTo D i) x.kv.key).getD kv0) x.kv.mod=true
def freshK (D:Doc) (i:Nat):Nat:=((D.kvs.take i).filter fun k=>k.mod == D.mark).length
def freshE (D:Doc) (i:Nat):Nat:=((D.events.take i).filter fun x=>x.kv.mod == D.mark && x.kind == 1).length
structure zbb (D:Doc):Prop where
 m0:0<=D.mark
 mr:D.mark<=D.rev
 top:D.rev<=1099511627776
 kvs:∀ i k,D.kvs[i]? = some k->KvOk D i k
 evs:∀ i x,D.events[i]? = some x->EvOk D i x
 last:revAt D D.events.length=D.rev
 fresh:freshK D D.kvs.length=freshE D D.events.length
theorem zil (D:Doc) {i:Nat} {k:Kv} (h:D.kvs[i]? = some k):freshK D (i+1)=freshK D i+(if k.mod == D.mark then 1 else 0):=by
 unfold freshK;rw [List.take_add_one,h,List.filter_append,List.length_append];simp only [Option.toList_some,List.filter_cons,List.filter_nil]
 split <;> simp
theorem znu (D:Doc) {i:Nat} {x:Ev} (h:D.events[i]? = some x):freshE D (i+1)=freshE D i+(if x.kv.mod == D.mark && x.kind == 1 then 1 else 0):=by
 unfold freshE;rw [List.take_add_one,h,List.filter_append,List.length_append];simp only [Option.toList_some,List.filter_cons,List.filter_nil]
 split <;> simp
theorem zte (D:Doc) (i:Nat):freshK D i<=i:=Nat.le_trans (List.length_filter_le _ _) (List.length_take_le _ _)
theorem ztf (D:Doc) (i:Nat):freshE D i<=i:=Nat.le_trans (List.length_filter_le _ _) (List.length_take_le _ _)
structure DocSm (D:Doc):Prop where
 kvs:∀ k∈D.kvs,k.key.size<=1099511627776
 evs:∀ x∈D.events,x.kv.key.size<=1099511627776/\x.prev.key.size<=1099511627776
 len:D.kvs.length+D.events.length<=100000000
theorem zfy {l:List Kv} (h:∀ i k k',0 < i->l[i]? = some k->l[i - 1]? = some k'->klt k'.key k.key=true):KSorted l:=by
 induction l with
 | nil=>exact List.Pairwise.nil
 | cons a l ih =>
   have ih':=ih fun i k k' hi hk hk'=>by
    refine h (i+1) k k' (by omega) (by simpa using hk) ?_;rw [show i+1 - 1=(i - 1)+1 by omega];simpa using hk'
   refine List.pairwise_cons.2 ⟨fun y hy=>?_,ih'⟩
   cases l with
   | nil=>cases hy
   | cons b l =>
     have hab:klt a.key b.key=true:=h 1 b a (by omega) rfl rfl;rcases List.mem_cons.1 hy with rfl | hy
     · exact hab
     exact zbx hab ((List.pairwise_cons.1 ih').1 y hy)
def MayP (x:Kv) (rev:Int):Prop:=keyE x.key=0/\x.value.size<=1024/\0<=x.lease/\1<=x.create/\x.create<=x.mod/\x.mod<=rev/\(x.mod=x.create->x.version=1)/\(x.mod≠x.create->2<=x.version/\x.version<=x.mod - x.create+1)
theorem zdw {x:Kv} {rev:Int}:mayB x rev=true ↔ MayP x rev:=by
 unfold mayB MayP;by_cases h:keyE x.key≠0\/1024 < x.value.size\/x.lease < 0\/x.create < 1\/x.mod < x.create\/rev < x.mod
 · rw [if_pos h]
   constructor
   · intro e;cases e
   rintro ⟨a,b,c,d,e,f,_⟩
   rcases h with h | h | h | h | h | h
   · exact absurd a h
   all_goals omega
 rw [if_neg h]
 simp only [not_or,Int.not_lt,Nat.not_lt,Decidable.not_not] at h;obtain ⟨a,b,c,d,e,f⟩:=h;by_cases hm:x.mod=x.create
 · rw [if_pos hm,beq_iff_eq]
   exact ⟨fun h=>⟨a,b,c,d,e,f,fun _=>h,fun hn=>absurd hm hn⟩,fun h=>h.2.2.2.2.2.2.1 hm⟩
 rw [if_neg hm,Bool.and_eq_true,decide_eq_true_eq,decide_eq_true_eq]
 exact ⟨fun h=>⟨a,b,c,d,e,f,fun hn=>absurd hn hm,fun _=>h⟩,fun h=>h.2.2.2.2.2.2.2 hm⟩
theorem MayP.mono {x:Kv} {r r':Int} (h:MayP x r) (hr:r<=r'):MayP x r':=by
 obtain ⟨a,b,c,d,e,f,g⟩:=h;exact ⟨a,b,c,d,e,by omega,g⟩
theorem MayP.ver {x:Kv} {r:Int} (h:MayP x r):1<=x.version/\x.mod<=r/\1<=x.mod:=by
 obtain ⟨a,b,c,d,e,f,g1,g2⟩:=h;by_cases hm:x.mod=x.create
 · have:=g1 hm;omega
 have:=g2 hm;omega
def EvW (e:Ev):Prop :=
 (e.kind=1/\e.kv.value.size<=1024/\0<=e.kv.lease/\e.kv.create=(if e.prev.version=0 then e.kv.mod else e.prev.create)/\e.kv.version=e.prev.version+1) ∨
 (e.kind=2/\0 < e.prev.version/\e.kv=⟨e.kv.key,ByteArray.empty,0,e.kv.mod,0,0⟩)
def PrevW (e:Ev):Prop:=e.prev=kv0\/(e.prev.key=e.kv.key/\MayP e.prev (e.kv.mod - 1))
theorem zsr {e:Ev} (h:EvW e) (h1:e.kind=1) (hk:keyE e.kv.key=0) (hm:1<=e.kv.mod) (hp:PrevW e):MayP e.kv e.kv.mod:=by
 rcases h with ⟨_,a,b,c,d⟩ | ⟨h2,_⟩
 · rcases hp with hp | ⟨_,hp⟩
   · rw [hp] at c d
     have c':e.kv.create=e.kv.mod:=c;have d':e.kv.version=1:=d;exact ⟨hk,a,b,by omega,by omega,Int.le_refl _,fun _=>d',fun hn=>absurd c'.symm hn⟩
   have hv:=hp.ver
   obtain ⟨p1,p2,p3,p4,p5,p6,p7,p8⟩:=hp;rw [if_neg (by omega)] at c;refine ⟨hk,a,b,by omega,by omega,Int.le_refl _,fun hn=>by omega,fun _=>⟨by omega,?_⟩⟩;by_cases hq:e.prev.mod=e.prev.create
   · have:=p7 hq;omega
   have:=p8 hq;omega
 rw [h1] at h2;cases h2
theorem zfl {l:List Kv} (hs:KSorted l) (A:List Ev) (e:Ev) (B:List Ev) (hB:∀ y∈B,y.kv.key≠e.kv.key):hasL ((A++e :: B).foldl doneL l) e.kv.key=if e.kind=1 then some e.kv else none:=by
 rw [List.foldl_append,List.foldl_cons];have h1:KSorted (doneL (A.foldl doneL l) e):=zco (zcg hs A) e
 have h2:hasL (doneL (A.foldl doneL l) e) e.kv.key=if e.kind=1 then some e.kv else none:=by
  rw [zct (zcg hs A),if_pos (zap.2 rfl)]
 generalize doneL (A.foldl doneL l) e=m at *;rw [<-h2];clear h2
 induction B generalizing m with
 | nil=>rfl
 | cons y B ih =>
   rw [List.foldl_cons,ih (fun z hz=>hB z (List.mem_cons_of_mem _ hz)) _ (zco h1 y),zct h1,if_neg];intro hk;exact hB y List.mem_cons_self (zap.1 hk).symm
theorem zpt {a b:ByteArray} (h:klt a b=true):Op.bytesLess a.toList b.toList=true/\Op.bytesLess b.toList a.toList=false/\(a.toList == b.toList)=false/\(b.toList == a.toList)=false/\(a.toList != b.toList)=true:=by
 have h1:=zcv h;have h2:keq a b=false:=klt_ne h;have h3:keq b a=false:=by rw [zcr];exact h2
 exact ⟨h,h1,h2,h3,by unfold bne;rw [show (a.toList == b.toList)=false from h2];rfl⟩
def docV (D:Doc) (vk ve:Value):Value:=.agg #[.int .i64 D.rev,.int .i64 D.mark,vk,ve]
structure DocR (w:World) (D:Doc) (vk ve:Value):Prop where
 kvs:SlR w 6 kvC vk D.kvs
 evs:SlR w 13 evC ve D.events
theorem DocR.fr0 {w w':World} {D:Doc} {vk ve:Value} (h:DocR w D vk ve) (hf:Fr No w w'):DocR w' D vk ve:=⟨h.kvs.fr0 hf,h.evs.fr0 hf⟩
theorem rb {a b:Bool} (h:a=b):Ending.returned (.bool a) = .returned (.bool b):=by rw [h]
open Go Go.Proofs
theorem zbr {P:Program} {C:World->Prop} {id:Nat} {Q:Exit->Act->World->Prop} {a:Act} {w:World} {l:List Oper} (hm:P.follows .mixedOrders=true) (hB:Region.lexB .any l.toArray=true)
 (hC:C w.drew) (h:wpQuiet P l.toArray C (fun a'=>∀ w',C w'->Q .normal a' w') l a):(Code.region id l.toArray true).wp P Q a w :=
 wp_region_quiet hm hB hC (by simpa using h)
def PrevOk (D:Doc):Prop:=∀ e∈D.events,e.prev=kv0\/e.prev.key=e.kv.key
theorem zuy {l:List Kv} {k:ByteArray}:(hasL l k).getD kv0=kv0\/((hasL l k).getD kv0).key=k:=by
 unfold hasL
 cases h:l.find? fun x=>keq x.key k with
 | none=>exact .inl rfl
 | some y =>
   have:=List.find?_some h;exact .inr (zap.1 this)
theorem PrevOk.cut {D:Doc} (h:PrevOk D) (R:Int):PrevOk (D.cut R):=fun e he=>h e (List.mem_filter.1 he).1
theorem DocOk.prevs {n:Nat} {D:Doc} (h:DocOk n D) {e:Ev} (he:e∈D.events) (hm:D.mark < e.kv.mod):e.prev=kv0\/e.prev.key=e.kv.key:=by
 obtain ⟨A,B,hAB⟩:=List.append_of_mem he;rw [h.prev A e B hAB hm];exact zuy
theorem PrevOk.adds {n:Nat} {D:Doc} {E:List Ev} (h:PrevOk D) (hd:DocOk n (D.adds E)) (hm:∀ e∈E,e.kv.mod=D.rev+1) (hmr:D.mark<=D.rev):PrevOk (D.adds E):=by
 obtain ⟨a,b,c⟩:=Doc.adds_parts D E;intro e he;have he':=he;rw [c] at he';rcases List.mem_append.1 he' with h1 | h1
 · exact h e h1
 exact hd.prevs he (by rw [a,hm e h1];omega)
theorem zsi {k:Nat} {S:St} {D:Doc} (h:Good k S D) (hk:k<=70) {q:CalQ} (hq:fewCal q=true) (hD:PrevOk D):PrevOk (doD S D q):=by
 obtain ⟨f1,f2,f3,f4,f5⟩:=zdl hq;have hm0:=h.cpl.m0;unfold doD;by_cases h4:kindN q.1.kind=4
 · rw [if_pos h4];exact hD
 rw [if_neg h4]
 by_cases h5:kindN q.1.kind=5
 · rw [if_pos h5]
   split
   · exact hD.cut _
   exact hD
 rw [if_neg h5]
 by_cases h6:kindN q.1.kind=6
 · rw [if_pos h6];exact hD
 rw [if_neg h6]
 by_cases h7:kindN q.1.kind=7
 · rw [if_pos h7]
   obtain ⟨a,_⟩:=h.drops hk q.2.2 f3 q.2.2.length (Nat.le_refl _);have he:dropTo (D.rev+1) S q.2.2 q.2.2.length=q.2.2.foldl (dropR (D.rev+1)) (S,[]):=(by unfold dropTo;rw [List.take_length]);rw [he] at a;exact hD.adds a.doc a.mods hm0.2
 rw [if_neg h7]
 by_cases ha:applyE S q.2.1=0
 · rw [if_pos ha]
   obtain ⟨⟨a,_⟩,_⟩:=h.runs hk (zbl ha).1 (fun o ho=>by have:=(f1 o ho).1;omega) q.2.1.length (Nat.le_refl _);rw [List.take_length] at a;exact hD.adds a.doc a.mods hm0.2
 rw [if_neg ha];exact hD
theorem zqw {l:List CalQ} (h:zbi l=true):∀ i≤ l.length,PrevOk (donesT l i).2:=by
 obtain ⟨h1,h2⟩:=zaz h;have hg:=zcc h;intro i
 induction i with
 | zero=>intro _ e he;simp [donesT,newD] at he
 | succ i ih =>
   intro hi;obtain ⟨q,hq⟩:∃ q,l[i]? = some q:=⟨_,List.getElem?_eq_getElem (by omega)⟩;rw [zcx l hq];exact zsi (hg i (by omega)) (by omega) (h2 q (List.mem_of_getElem? hq)) (ih (by omega))
theorem zvd {l:List CalQ} (h:zbi l=true):DocSm (donesT l l.length).2:=by
 obtain ⟨h1,_⟩:=zaz h;have hG:=zcc h l.length (Nat.le_refl _);have hK:=zfg h l.length (Nat.le_refl _);have hP:=zqw h l.length (Nat.le_refl _);generalize donesT l l.length=SD at *;obtain ⟨S,D⟩:=SD;dsimp only at hG hK hP ⊢
 refine ⟨fun k hk=>?_,fun x hx=>⟨?_,?_⟩,?_⟩
 · have:=(zii (hK.kvs k hk)).2;omega
 · have:=(zii (hK.evs x hx)).2;omega
 · have h3:=(zii (hK.evs x hx)).2
   rcases hP x hx with e | e
   · rw [e];show ByteArray.empty.size<=_;exact Nat.zero_le _
   rw [e];omega
 have hev:D.events.length<=20000 * l.length:=by have:=hG.ok.ev;rw [<-hG.cpl.events];omega
 have hkl:D.kvs.length<=16 * l.length:=by
  have h1:=hG.size;rw [<-zem hG];unfold zan;exact Nat.le_trans (List.length_filterMap_le _ _) (by omega)
 omega
def rg0 (key:ByteArray):Rg:=⟨key,ByteArray.empty,0,0,false,false,false⟩
def bA:ByteArray:=⟨#[97]⟩
def bB:ByteArray:=⟨#[98]⟩
def b1:ByteArray:=⟨#[49]⟩
def b2:ByteArray:=⟨#[50]⟩
def putO (k v:ByteArray):Opr:=⟨1,rg0 k,v,0⟩
end Go.Proofs.YthljnnjpmdgkoaaGreat