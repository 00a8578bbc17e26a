/- Own lemmas and contracts that the claim's proof needs, laid together. The conditions stand in each. -/
import Derived.Test.YthljnnjpmdgkoaaN30
import Derived.Test.YthljnnjpmdgkoaaN24
import Derived.Test.YthljnnjpmdgkoaaN22
import Derived.Test.YthljnnjpmdgkoaaN14
import Derived.Test.YthljnnjpmdgkoaaN25
import Derived.Test.YthljnnjpmdgkoaaN21
import Derived.Deep.CutBlock
import Derived.WalkLawsBesides
namespace Go.Proofs.Ythljnnjpmdgkoaa
open Go Go.Proofs Go.RowKit
def sameB (x y:Kv):Bool:=keq x.key y.key && (keq x.value y.value && (x.create == y.create && (x.mod == y.mod && (x.version == y.version && x.lease == y.lease))))
theorem zgl (a:ByteArray):keq a a=true:=zai.2 rfl
theorem zdr {x y:Kv}:sameB x y=true ↔ x=y:=by
 obtain ⟨x1,x2,x3,x4,x5,x6⟩:=x;obtain ⟨y1,y2,y3,y4,y5,y6⟩:=y;unfold sameB;simp only [Bool.and_eq_true,beq_iff_eq,zai,Kv.mk.injEq]
theorem zed (x:Kv):sameB x x=true:=zdr.2 rfl
def mayB (x:Kv) (rev:Int):Bool :=
 if keyE x.key≠0\/1024 < x.value.size\/x.lease < 0\/x.create < 1\/x.mod < x.create\/rev < x.mod then false
 else if x.mod=x.create then x.version == 1 else decide (2<=x.version) && decide (x.version<=x.mod - x.create+1)
def madeB (x:Ev) (was:Kv) (rev:Int):Bool :=
 if keyE x.kv.key≠0\/x.kv.mod≠rev\/sameB x.prev was=false then false
 else if x.kind=2 then decide (0 < was.version) && sameB x.kv ⟨x.kv.key,ByteArray.empty,0,rev,0,0⟩
 else (x.kind == 1) && ((x.kv.create == if was.version=0 then rev else was.create) && ((x.kv.version == wrap64 (was.version+1)) && (decide (x.kv.value.size<=1024) && decide (0<=x.kv.lease))))
def zfq (x:Ev) (l:List Kv) (mark:Int):Bool :=
 if (sameB x.prev kv0=false/\(keq x.prev.key x.kv.key=false\/mayB x.prev (mark - 1)=false))\/madeB x x.prev mark=false then false
 else if x.kind=1 then sameB ((hasL l x.kv.key).getD kv0) x.kv else ((hasL l x.kv.key).getD kv0).version == 0
structure KvOk (D:Doc) (i:Nat) (k:Kv):Prop where
 may:mayB k D.mark=true
 up:∀ k',0 < i->D.kvs[i - 1]? = some k'->klt k'.key k.key=true
structure EvOk (D:Doc) (i:Nat) (x:Ev):Prop where
 lo:max D.mark 1<=x.kv.mod
 ge:revAt D i<=x.kv.mod
 le:x.kv.mod<=revAt D i+1
 one:∀ j y,j < i->D.events[j]? = some y->y.kv.mod=x.kv.mod->keq y.kv.key x.kv.key=false
 mkd:x.kv.mod=D.mark->zfq x D.kvs D.mark=true
 md:x.kv.mod≠D.mark->madeB x ((hasL (foldTo D i) x.kv.key).getD kv0) x.kv.mod=true
def freshK (D:Doc) (i:Nat):Nat:=((D.kvs.take i).filter fun k=>k.mod == D.mark).length
def freshE (D:Doc) (i:Nat):Nat:=((D.events.take i).filter fun x=>x.kv.mod == D.mark && x.kind == 1).length
structure zar (D:Doc):Prop where
 m0:0<=D.mark
 mr:D.mark<=D.rev
 top:D.rev<=1099511627776
 kvs:∀ i k,D.kvs[i]? = some k->KvOk D i k
 evs:∀ i x,D.events[i]? = some x->EvOk D i x
 last:revAt D D.events.length=D.rev
 fresh:freshK D D.kvs.length=freshE D D.events.length
theorem zhz (D:Doc) {i:Nat} {k:Kv} (h:D.kvs[i]? = some k):freshK D (i+1)=freshK D i+(if k.mod == D.mark then 1 else 0):=by
 unfold freshK;rw [List.take_add_one,h,List.filter_append,List.length_append];simp only [Option.toList_some,List.filter_cons,List.filter_nil]
 split <;> simp
theorem zml (D:Doc) {i:Nat} {x:Ev} (h:D.events[i]? = some x):freshE D (i+1)=freshE D i+(if x.kv.mod == D.mark && x.kind == 1 then 1 else 0):=by
 unfold freshE;rw [List.take_add_one,h,List.filter_append,List.length_append];simp only [Option.toList_some,List.filter_cons,List.filter_nil]
 split <;> simp
theorem zrc (D:Doc) (i:Nat):freshK D i<=i:=Nat.le_trans (List.length_filter_le _ _) (List.length_take_le _ _)
theorem zrd (D:Doc) (i:Nat):freshE D i<=i:=Nat.le_trans (List.length_filter_le _ _) (List.length_take_le _ _)
structure DocSm (D:Doc):Prop where
 kvs:∀ k∈D.kvs,k.key.size<=1099511627776
 evs:∀ x∈D.events,x.kv.key.size<=1099511627776/\x.prev.key.size<=1099511627776
 len:D.kvs.length+D.events.length<=100000000
theorem zez {l:List Kv} (h:∀ i k k',0 < i->l[i]? = some k->l[i - 1]? = some k'->klt k'.key k.key=true):KSorted l:=by
 induction l with
 | nil=>exact List.Pairwise.nil
 | cons a l ih =>
   have ih':=ih fun i k k' hi hk hk'=>by
    refine h (i+1) k k' (by omega) (by simpa using hk) ?_;rw [show i+1 - 1=(i - 1)+1 by omega];simpa using hk'
   refine List.pairwise_cons.2 ⟨fun y hy=>?_,ih'⟩
   cases l with
   | nil=>cases hy
   | cons b l =>
     have hab:klt a.key b.key=true:=h 1 b a (by omega) rfl rfl;rcases List.mem_cons.1 hy with rfl | hy
     · exact hab
     exact zbu hab ((List.pairwise_cons.1 ih').1 y hy)
def MayP (x:Kv) (rev:Int):Prop:=keyE x.key=0/\x.value.size<=1024/\0<=x.lease/\1<=x.create/\x.create<=x.mod/\x.mod<=rev/\(x.mod=x.create->x.version=1)/\(x.mod≠x.create->2<=x.version/\x.version<=x.mod - x.create+1)
theorem zdh {x:Kv} {rev:Int}:mayB x rev=true ↔ MayP x rev:=by
 unfold mayB MayP;by_cases h:keyE x.key≠0\/1024 < x.value.size\/x.lease < 0\/x.create < 1\/x.mod < x.create\/rev < x.mod
 · rw [if_pos h]
   constructor
   · intro e;cases e
   rintro ⟨a,b,c,d,e,f,_⟩
   rcases h with h | h | h | h | h | h
   · exact absurd a h
   all_goals omega
 rw [if_neg h]
 simp only [not_or,Int.not_lt,Nat.not_lt,Decidable.not_not] at h;obtain ⟨a,b,c,d,e,f⟩:=h;by_cases hm:x.mod=x.create
 · rw [if_pos hm,beq_iff_eq]
   exact ⟨fun h=>⟨a,b,c,d,e,f,fun _=>h,fun hn=>absurd hm hn⟩,fun h=>h.2.2.2.2.2.2.1 hm⟩
 rw [if_neg hm,Bool.and_eq_true,decide_eq_true_eq,decide_eq_true_eq]
 exact ⟨fun h=>⟨a,b,c,d,e,f,fun hn=>absurd hn hm,fun _=>h⟩,fun h=>h.2.2.2.2.2.2.2 hm⟩
theorem MayP.mono {x:Kv} {r r':Int} (h:MayP x r) (hr:r<=r'):MayP x r':=by
 obtain ⟨a,b,c,d,e,f,g⟩:=h;exact ⟨a,b,c,d,e,by omega,g⟩
theorem MayP.ver {x:Kv} {r:Int} (h:MayP x r):1<=x.version/\x.mod<=r/\1<=x.mod:=by
 obtain ⟨a,b,c,d,e,f,g1,g2⟩:=h;by_cases hm:x.mod=x.create
 · have:=g1 hm;omega
 have:=g2 hm;omega
def EvW (e:Ev):Prop :=
 (e.kind=1/\e.kv.value.size<=1024/\0<=e.kv.lease/\e.kv.create=(if e.prev.version=0 then e.kv.mod else e.prev.create)/\e.kv.version=e.prev.version+1) ∨
 (e.kind=2/\0 < e.prev.version/\e.kv=⟨e.kv.key,ByteArray.empty,0,e.kv.mod,0,0⟩)
def PrevW (e:Ev):Prop:=e.prev=kv0\/(e.prev.key=e.kv.key/\MayP e.prev (e.kv.mod - 1))
theorem zmb {e:Ev} (h:EvW e) (h1:e.kind=1) (hk:keyE e.kv.key=0) (hm:1<=e.kv.mod) (hp:PrevW e):MayP e.kv e.kv.mod:=by
 rcases h with ⟨_,a,b,c,d⟩ | ⟨h2,_⟩
 · rcases hp with hp | ⟨_,hp⟩
   · rw [hp] at c d
     have c':e.kv.create=e.kv.mod:=c;have d':e.kv.version=1:=d;exact ⟨hk,a,b,by omega,by omega,Int.le_refl _,fun _=>d',fun hn=>absurd c'.symm hn⟩
   have hv:=hp.ver
   obtain ⟨p1,p2,p3,p4,p5,p6,p7,p8⟩:=hp;rw [if_neg (by omega)] at c;refine ⟨hk,a,b,by omega,by omega,Int.le_refl _,fun hn=>by omega,fun _=>⟨by omega,?_⟩⟩;by_cases hq:e.prev.mod=e.prev.create
   · have:=p7 hq;omega
   have:=p8 hq;omega
 rw [h1] at h2;cases h2
theorem zir {l:List Kv} (hs:KSorted l) (A:List Ev) (e:Ev) (B:List Ev) (hB:∀ y∈B,y.kv.key≠e.kv.key):hasL ((A++e :: B).foldl doneL l) e.kv.key=if e.kind=1 then some e.kv else none:=by
 rw [List.foldl_append,List.foldl_cons];have h1:KSorted (doneL (A.foldl doneL l) e):=zcd (zbw hs A) e
 have h2:hasL (doneL (A.foldl doneL l) e) e.kv.key=if e.kind=1 then some e.kv else none:=by
  rw [zcj (zbw hs A),if_pos (zai.2 rfl)]
 generalize doneL (A.foldl doneL l) e=m at *;rw [<-h2];clear h2
 induction B generalizing m with
 | nil=>rfl
 | cons y B ih =>
   rw [List.foldl_cons,ih (fun z hz=>hB z (List.mem_cons_of_mem _ hz)) _ (zcd h1 y),zcj h1,if_neg];intro hk;exact hB y List.mem_cons_self (zai.1 hk).symm
set_option maxRecDepth 100000
theorem zoa {a b:ByteArray} (h:klt a b=true):Op.bytesLess a.toList b.toList=true/\Op.bytesLess b.toList a.toList=false/\(a.toList == b.toList)=false/\(b.toList == a.toList)=false/\(a.toList != b.toList)=true:=by
 have h1:=zcx h;have h2:keq a b=false:=klt_ne h;have h3:keq b a=false:=by rw [zef];exact h2
 exact ⟨h,h1,h2,h3,by unfold bne;rw [show (a.toList == b.toList)=false from h2];rfl⟩
def docV (D:Doc) (vk ve:Value):Value:=.agg #[.int .i64 D.rev,.int .i64 D.mark,vk,ve]
structure DocR (w:World) (D:Doc) (vk ve:Value):Prop where
 kvs:SlR w 6 kvC vk D.kvs
 evs:SlR w 13 evC ve D.events
theorem DocR.fr0 {w w':World} {D:Doc} {vk ve:Value} (h:DocR w D vk ve) (hf:Fr No w w'):DocR w' D vk ve:=⟨h.kvs.fr0 hf,h.evs.fr0 hf⟩
theorem cells5U:Try.prog.cellsOf 5=1:=by kernel_rfl
theorem Fr.freeze {S:Nat->Prop} {a w:World} (h:Fr S a w) (g n:Nat) (hg:S g\/a.heap.size<=g):Fr S a (w.freeze ⟨g,0,none⟩ n):=by
 unfold World.freeze
 split
 · exact h
 refine ⟨h.os,h.tape,h.output,by simpa using h.size,fun i hi hs=>?_⟩
 rw [<-h.block i hi hs];simp only [Array.getElem?_modify]
 split
 · rename_i e
   rcases hg with h2 | h2
   · exact absurd (e ▸ h2) hs
   exact absurd hi (by have e':g=i:=e;omega)
 rfl
set_option maxHeartbeats 2000000 in
theorem zif (w:World) (b:Nat) (l:List UInt8) (v:Value) (h:BdAt w b (Lib.byteCells l) v) (h0:l≠[]) :
 Calls Try.prog 106 #[.pointer (some ⟨b,0,none⟩)] w fun e w'=>e = .returned (.string ⟨l.toArray⟩)/\Fr (fun x=>v.ownBlock=some x) w w':=by
 obtain ⟨p,hp,hbk,hown,hne⟩:=h;have hl0:l.length≠0:=by simpa using h0
 rw [Lib.byteCells_length] at hown
 obtain ⟨g,cap,cur,fz,rfl,hbg,hg,hfz,hnc,hcm,hcs,htake⟩:∃ g cap cur fz,v = .slice (some ⟨g,0,none⟩) l.length cap/\0<=g/\w.heap[g]? = some (.cells cur 5 fz)/\fz.2<=l.length * 1/\l.length<=cap/\cap<=maxLen/\cur.size=cap * 1/\cur.toList.take (l.length * 1)=Lib.byteCells l:=by
  rcases hown.2 with ⟨_,hz⟩ | ⟨g,cap,cur,fz,hv,r⟩
  · exact absurd hz hl0
  exact ⟨g,cap,cur,fz,hv,r⟩
 have c1:w.drew.cell? ⟨b,1,none⟩=some (.slice (some ⟨g,0,none⟩) l.length cap):=by
  have:w.drew.heap[b]? = some (.cells #[p,.slice (some ⟨g,0,none⟩) l.length cap] 167 (0,0)):=hbk;rw [Lib.cell_of_heap this];rfl
 have hSD:(Builtin.unsafeSliceData_ #[109] 206 #[.slice (some ⟨g,0,none⟩) l.length cap]).run Try.prog w.drew = .ok (.pointer (some ⟨g,0,none⟩)) w.drew :=
  Lib.run_unsafeSliceData_row _ _ _ _ _ _ (by omega)
 have hUS:(Builtin.unsafeString_ #[206,3] 9 #[.pointer (some ⟨g,0,none⟩),.int .i64 l.length]).run Try.prog w.drew = .ok (.string ⟨l.toArray⟩) (w.drew.freeze ⟨g,0,none⟩ l.length):=by
  refine Lib.run_unsafeString_row w.drew 206 3 9 5 Try.underlying206 cells5U g cur.size (by have hg':w.drew.heap[g]? = some (.cells cur 5 fz):=hg;simp [World.shape?,hg']) l h0 (by omega) (by unfold maxLen at hcm;omega) ?_;intro j x hx;have:=hown.cells (g:=g) rfl j (.int .u8 x.toNat) (by simp [Lib.byteCells,hx]);exact this
 have mixed:Try.prog.follows .mixedOrders=true:=by kernel_rfl
 go_enter Try.func106,Try.ntmps106;go_wp2
 go_region_o
 all_goals (go_wp2;go_ret;exact ⟨rfl,(Fr.refl _ w).drew.freeze g _ (.inl rfl)⟩)
theorem zsd (n:Int):numB n = [72057594037927936,281474976710656,1099511627776,4294967296,16777216,65536,256,1].map fun q=>UInt8.ofNat ((n % 18446744073709551616).toNat / q % 256):=by
 unfold numB;generalize (n % 18446744073709551616).toNat=m;simp only [beN,List.nil_append,List.cons_append,List.map_cons,List.map_nil,Nat.div_div_eq_div_mul,Nat.div_one]
theorem zcc (n:Int) (k:Nat) (c:Int) (u:UInt8) (hu:(numB n)[k]? = some u) (hc:(u.toNat:Int)=c):Lib.byteCells ((numB n).take (k+1))=Lib.byteCells ((numB n).take k)++[.int .u8 c]:=by
 rw [List.take_add_one,hu];simp [Lib.byteCells,hc]
theorem zec (m q:Nat):(UInt8.ofNat (m / q % 256)).toNat=m / q % 256:=by
 rw [UInt8.toNat_ofNat'];omega
set_option maxHeartbeats 4000000 in
theorem zgq (w:World) (b:Nat) (bs:List Value) (v:Value) (g i:Nat) (e:TypeId) (cs:List Value) (n:Int) (h:BdAt w b bs v) (hg:w.heap[g]? = some (.cells cs.toArray e (0,0))) (hi:cs[i]? = some (.int .i64 n)) (hgb:g≠b) (hgv:v.ownBlock≠some g) (hlen:bs.length+8<=140737488355328) :
 Calls Try.prog 102 (#[.pointer (some ⟨g,i,none⟩)] ++ #[.pointer (some ⟨b,0,none⟩)]) w fun en w'=>en = .returned (.tuple #[])/\∃ v',BdAt w' b (bs++Lib.byteCells (numB n)) v'/\Fr (fun x=>x=b\/v.ownBlock=some x) w w'/\(∀ x,v'.ownBlock=some x->v.ownBlock=some x\/w.heap.size<=x):=by
 have H:=H_ h;have HG:=H_ hg;have HI:=H_ hi;clear h hg hi;go_enter Try.func102,Try.ntmps102;go_wp2_with fail
 go_loopg [3] 8 (fun g8 s3 wr=>∃ (k:Nat) (v1:Value),s3 = .int .i64 (56 - 8 * (k:Int))/\k+g8=8/\Hid (BdAt wr b (bs++Lib.byteCells ((numB n).take k)) v1)/\Hid (Fr (fun x=>x=b\/v.ownBlock=some x) w wr)/\Hid (∀ x,v1.ownBlock=some x->v.ownBlock=some x\/w.heap.size<=x))
 case atStart=>exact ⟨0,v,rfl,rfl,H_ (by simpa [Lib.byteCells] using H.out),H_ (Fr.refl _ w),H_ fun x h=>.inl h⟩
 case round =>
  obtain ⟨k,v1,rfl,hk,HB,HF,HV⟩:=hrel
  cases gk with
  | zero =>
    have hk8:k=8:=(by omega);subst hk8;go_wp2_with fail;refine bodyPost_end (results_none rfl _ _ _) rfl ⟨rfl,v1,?_,HF.out,HV.out⟩;have h:=HB.out;rw [List.take_of_length_le (by rw [zay];omega)] at h;exact h
  | succ q =>
    have hg1:=HF.out.heap HG.out (by rintro (h | h);exact hgb h;exact hgv h);have gn:wr.cell? ⟨g,i,none⟩=some (.int .i64 n):=cellAt hg1 i (by simpa using HI.out);have lg:=zab hg1
    have hbl:∀ (j:Nat),(bs++Lib.byteCells ((numB n).take j)).length<=bs.length+j:=fun j=>by
     rw [List.length_append,Lib.byteCells_length,List.length_take];omega
    have HBL:=H_ hbl;have HNG:=H_ (zsd n);clear hbl hg1;rcases (show k=0\/k=1\/k=2\/k=3\/k=4\/k=5\/k=6\/k=7 by omega) with rfl | rfl | rfl | rfl | rfl | rfl | rfl | rfl
    · have HN:Hid (Lib.byteCells ((numB n).take (0+1))=Lib.byteCells ((numB n).take 0)++[.int .u8 (n / 72057594037927936 % 256)]):=H_ (zcc n 0 _ _ (by rw [HNG.out];rfl) (by rw [zec];omega))
      have HC:=H_ (zaw wr b _ v1 (n / 72057594037927936 % 256) HB.out (by have:=HBL.out 0;omega));go_wp2_with (go_at_call 103;refine HC.out.mono ?_;rintro en w1 ⟨rfl,v2,hb2,hf2,ho2⟩);have HB2:=H_ hb2;have HF2:=H_ hf2;have HO2:=H_ ho2;clear hb2 hf2 ho2;go_roundg q
      case rel =>
       refine ⟨1,v2,by go_num,by omega,H_ ?_,H_ (HF.out.trans HF2.out fun x hx h=>?_),H_ fun x hx=>?_⟩
       · have h:=HB2.out
         rw [List.append_assoc,<-HN.out] at h;exact h
       · rcases h with h | h
         · exact .inl h
         rcases HV.out x h with h | h
         · exact .inr h
         omega
       rcases HO2.out x hx with h | h
       · exact HV.out x h
       exact .inr (by have:=HF.out.size;omega)
      case measure=>omega
    · have HN:Hid (Lib.byteCells ((numB n).take (1+1))=Lib.byteCells ((numB n).take 1)++[.int .u8 (n / 281474976710656 % 256)]):=H_ (zcc n 1 _ _ (by rw [HNG.out];rfl) (by rw [zec];omega))
      have HC:=H_ (zaw wr b _ v1 (n / 281474976710656 % 256) HB.out (by have:=HBL.out 1;omega));go_wp2_with (go_at_call 103;refine HC.out.mono ?_;rintro en w1 ⟨rfl,v2,hb2,hf2,ho2⟩);have HB2:=H_ hb2;have HF2:=H_ hf2;have HO2:=H_ ho2;clear hb2 hf2 ho2;go_roundg q
      case rel =>
       refine ⟨2,v2,by go_num,by omega,H_ ?_,H_ (HF.out.trans HF2.out fun x hx h=>?_),H_ fun x hx=>?_⟩
       · have h:=HB2.out
         rw [List.append_assoc,<-HN.out] at h;exact h
       · rcases h with h | h
         · exact .inl h
         rcases HV.out x h with h | h
         · exact .inr h
         omega
       rcases HO2.out x hx with h | h
       · exact HV.out x h
       exact .inr (by have:=HF.out.size;omega)
      case measure=>omega
    · have HN:Hid (Lib.byteCells ((numB n).take (2+1))=Lib.byteCells ((numB n).take 2)++[.int .u8 (n / 1099511627776 % 256)]):=H_ (zcc n 2 _ _ (by rw [HNG.out];rfl) (by rw [zec];omega))
      have HC:=H_ (zaw wr b _ v1 (n / 1099511627776 % 256) HB.out (by have:=HBL.out 2;omega));go_wp2_with (go_at_call 103;refine HC.out.mono ?_;rintro en w1 ⟨rfl,v2,hb2,hf2,ho2⟩);have HB2:=H_ hb2;have HF2:=H_ hf2;have HO2:=H_ ho2;clear hb2 hf2 ho2;go_roundg q
      case rel =>
       refine ⟨3,v2,by go_num,by omega,H_ ?_,H_ (HF.out.trans HF2.out fun x hx h=>?_),H_ fun x hx=>?_⟩
       · have h:=HB2.out
         rw [List.append_assoc,<-HN.out] at h;exact h
       · rcases h with h | h
         · exact .inl h
         rcases HV.out x h with h | h
         · exact .inr h
         omega
       rcases HO2.out x hx with h | h
       · exact HV.out x h
       exact .inr (by have:=HF.out.size;omega)
      case measure=>omega
    · have HN:Hid (Lib.byteCells ((numB n).take (3+1))=Lib.byteCells ((numB n).take 3)++[.int .u8 (n / 4294967296 % 256)]):=H_ (zcc n 3 _ _ (by rw [HNG.out];rfl) (by rw [zec];omega))
      have HC:=H_ (zaw wr b _ v1 (n / 4294967296 % 256) HB.out (by have:=HBL.out 3;omega));go_wp2_with (go_at_call 103;refine HC.out.mono ?_;rintro en w1 ⟨rfl,v2,hb2,hf2,ho2⟩);have HB2:=H_ hb2;have HF2:=H_ hf2;have HO2:=H_ ho2;clear hb2 hf2 ho2;go_roundg q
      case rel =>
       refine ⟨4,v2,by go_num,by omega,H_ ?_,H_ (HF.out.trans HF2.out fun x hx h=>?_),H_ fun x hx=>?_⟩
       · have h:=HB2.out
         rw [List.append_assoc,<-HN.out] at h;exact h
       · rcases h with h | h
         · exact .inl h
         rcases HV.out x h with h | h
         · exact .inr h
         omega
       rcases HO2.out x hx with h | h
       · exact HV.out x h
       exact .inr (by have:=HF.out.size;omega)
      case measure=>omega
    · have HN:Hid (Lib.byteCells ((numB n).take (4+1))=Lib.byteCells ((numB n).take 4)++[.int .u8 (n / 16777216 % 256)]):=H_ (zcc n 4 _ _ (by rw [HNG.out];rfl) (by rw [zec];omega))
      have HC:=H_ (zaw wr b _ v1 (n / 16777216 % 256) HB.out (by have:=HBL.out 4;omega));go_wp2_with (go_at_call 103;refine HC.out.mono ?_;rintro en w1 ⟨rfl,v2,hb2,hf2,ho2⟩);have HB2:=H_ hb2;have HF2:=H_ hf2;have HO2:=H_ ho2;clear hb2 hf2 ho2;go_roundg q
      case rel =>
       refine ⟨5,v2,by go_num,by omega,H_ ?_,H_ (HF.out.trans HF2.out fun x hx h=>?_),H_ fun x hx=>?_⟩
       · have h:=HB2.out
         rw [List.append_assoc,<-HN.out] at h;exact h
       · rcases h with h | h
         · exact .inl h
         rcases HV.out x h with h | h
         · exact .inr h
         omega
       rcases HO2.out x hx with h | h
       · exact HV.out x h
       exact .inr (by have:=HF.out.size;omega)
      case measure=>omega
    · have HN:Hid (Lib.byteCells ((numB n).take (5+1))=Lib.byteCells ((numB n).take 5)++[.int .u8 (n / 65536 % 256)]):=H_ (zcc n 5 _ _ (by rw [HNG.out];rfl) (by rw [zec];omega))
      have HC:=H_ (zaw wr b _ v1 (n / 65536 % 256) HB.out (by have:=HBL.out 5;omega));go_wp2_with (go_at_call 103;refine HC.out.mono ?_;rintro en w1 ⟨rfl,v2,hb2,hf2,ho2⟩);have HB2:=H_ hb2;have HF2:=H_ hf2;have HO2:=H_ ho2;clear hb2 hf2 ho2;go_roundg q
      case rel =>
       refine ⟨6,v2,by go_num,by omega,H_ ?_,H_ (HF.out.trans HF2.out fun x hx h=>?_),H_ fun x hx=>?_⟩
       · have h:=HB2.out
         rw [List.append_assoc,<-HN.out] at h;exact h
       · rcases h with h | h
         · exact .inl h
         rcases HV.out x h with h | h
         · exact .inr h
         omega
       rcases HO2.out x hx with h | h
       · exact HV.out x h
       exact .inr (by have:=HF.out.size;omega)
      case measure=>omega
    · have HN:Hid (Lib.byteCells ((numB n).take (6+1))=Lib.byteCells ((numB n).take 6)++[.int .u8 (n / 256 % 256)]):=H_ (zcc n 6 _ _ (by rw [HNG.out];rfl) (by rw [zec];omega))
      have HC:=H_ (zaw wr b _ v1 (n / 256 % 256) HB.out (by have:=HBL.out 6;omega));go_wp2_with (go_at_call 103;refine HC.out.mono ?_;rintro en w1 ⟨rfl,v2,hb2,hf2,ho2⟩);have HB2:=H_ hb2;have HF2:=H_ hf2;have HO2:=H_ ho2;clear hb2 hf2 ho2;go_roundg q
      case rel =>
       refine ⟨7,v2,by go_num,by omega,H_ ?_,H_ (HF.out.trans HF2.out fun x hx h=>?_),H_ fun x hx=>?_⟩
       · have h:=HB2.out
         rw [List.append_assoc,<-HN.out] at h;exact h
       · rcases h with h | h
         · exact .inl h
         rcases HV.out x h with h | h
         · exact .inr h
         omega
       rcases HO2.out x hx with h | h
       · exact HV.out x h
       exact .inr (by have:=HF.out.size;omega)
      case measure=>omega
    have HN:Hid (Lib.byteCells ((numB n).take (7+1))=Lib.byteCells ((numB n).take 7)++[.int .u8 (n % 256)]):=H_ (zcc n 7 _ _ (by rw [HNG.out];rfl) (by rw [zec];omega))
    have HC:=H_ (zaw wr b _ v1 (n % 256) HB.out (by have:=HBL.out 7;omega));go_wp2_with (go_at_call 103;refine HC.out.mono ?_;rintro en w1 ⟨rfl,v2,hb2,hf2,ho2⟩);have HB2:=H_ hb2;have HF2:=H_ hf2;have HO2:=H_ ho2;clear hb2 hf2 ho2;go_roundg q
    case rel =>
     refine ⟨8,v2,by go_num,by omega,H_ ?_,H_ (HF.out.trans HF2.out fun x hx h=>?_),H_ fun x hx=>?_⟩
     · have h:=HB2.out
       rw [List.append_assoc,<-HN.out] at h;exact h
     · rcases h with h | h
       · exact .inl h
       rcases HV.out x h with h | h
       · exact .inr h
       omega
     rcases HO2.out x hx with h | h
     · exact HV.out x h
     exact .inr (by have:=HF.out.size;omega)
    case measure=>omega
end Go.Proofs.Ythljnnjpmdgkoaa