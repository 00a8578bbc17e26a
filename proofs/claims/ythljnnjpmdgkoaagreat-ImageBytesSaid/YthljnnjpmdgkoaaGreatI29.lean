/- Own lemmas. -/
import Derived.Test.YthljnnjpmdgkoaaGreatI28
import Derived.Test.YthljnnjpmdgkoaaGreatI20
import Derived.Test.YthljnnjpmdgkoaaGreatI18
import Derived.Test.YthljnnjpmdgkoaaGreatI14
import Derived.Deep.CutBlock
import Derived.WalkLawsBesides
namespace Go.Proofs.YthljnnjpmdgkoaaGreat
open Go Go.Proofs Go.RowKit
def sameB (x y:Kv):Bool:=keq x.key y.key&&(keq x.value y.value&&(x.create==y.create&&(x.mod==y.mod&&(x.version==y.version&&x.lease==y.lease))))
theorem zjk (a:ByteArray):keq a a=true:=zas.2 rfl
theorem zfs {x y:Kv}:sameB x y=true↔x=y:=by
 obtain ⟨a,b,c,d,e,f⟩:=x;obtain ⟨g,i,j,k,l,m⟩:=y;unfold sameB;simp only [Bool.and_eq_true,beq_iff_eq,zas,Kv.mk.injEq]
theorem zgf (x:Kv):sameB x x=true:=zfs.2 rfl
theorem zxt (l:List Kv) (x:Ev):(doneL l x).length<=l.length+1:=by
 induction l with
 | nil=>unfold doneL;split <;> simp
 | cons k l ih =>
   unfold doneL
   split
   · simp only [List.length_cons];omega
   simp only [List.length_append,List.length_cons]
   split <;> split <;> simp <;> omega
def mayB (x:Kv) (rev:Int):Bool :=
 if keyE x.key≠0\/1024<x.value.size\/x.lease<0\/x.create<1\/x.mod<x.create\/rev<x.mod then false
 else if x.mod=x.create then x.version==1 else decide (2<=x.version)&&decide (x.version<=x.mod-x.create+1)
def madeB (x:Ev) (was:Kv) (rev:Int):Bool :=
 if keyE x.kv.key≠0\/x.kv.mod≠rev\/sameB x.prev was=false then false
 else if x.kind=2 then decide (0<was.version)&&sameB x.kv ⟨x.kv.key,ByteArray.empty,0,rev,0,0⟩
 else (x.kind==1)&&((x.kv.create==if was.version=0 then rev else was.create)&&((x.kv.version==wrap64 (was.version+1))&&(decide (x.kv.value.size<=1024)&&decide (0<=x.kv.lease))))
def zih (x:Ev) (l:List Kv) (mark:Int):Bool :=
 if (sameB x.prev kv0=false/\(keq x.prev.key x.kv.key=false\/mayB x.prev (mark-1)=false))\/madeB x x.prev mark=false then false
 else if x.kind=1 then sameB ((hasL l x.kv.key).getD kv0) x.kv else ((hasL l x.kv.key).getD kv0).version==0
structure KvOk (D:Doc) (i:Nat) (k:Kv):Prop where
 may:mayB k D.mark=true
 up:∀ k',0<i->D.kvs[i-1]?=some k'->klt k'.key k.key=true
structure EvOk (D:Doc) (i:Nat) (x:Ev):Prop where
 lo:max D.mark 1<=x.kv.mod
 ge:revAt D i<=x.kv.mod
 le:x.kv.mod<=revAt D i+1
 one:∀ j y,j<i->D.events[j]?=some y->y.kv.mod=x.kv.mod->keq y.kv.key x.kv.key=false
 mkd:x.kv.mod=D.mark->zih x D.kvs D.mark=true
 md:x.kv.mod≠D.mark->madeB x ((hasL (foldTo D i) x.kv.key).getD kv0) x.kv.mod=true
def freshK (D:Doc) (i:Nat):Nat:=((D.kvs.take i).filter fun k=>k.mod==D.mark).length
def freshE (D:Doc) (i:Nat):Nat:=((D.events.take i).filter fun x=>x.kv.mod==D.mark&&x.kind==1).length
structure zbg (D:Doc):Prop where
 m0:0<=D.mark
 mr:D.mark<=D.rev
 top:D.rev<=1099511627776
 kvs:∀ i k,D.kvs[i]?=some k->KvOk D i k
 evs:∀ i x,D.events[i]?=some x->EvOk D i x
 last:revAt D D.events.length=D.rev
 fresh:freshK D D.kvs.length=freshE D D.events.length
theorem zky (D:Doc) {i:Nat} {k:Kv} (h:D.kvs[i]?=some k):freshK D (i+1)=freshK D i+(if k.mod==D.mark then 1 else 0):=by
 unfold freshK;rw [List.take_add_one,h,List.filter_append,List.length_append];simp only [Option.toList_some,List.filter_cons,List.filter_nil]
 split <;> simp
theorem zri (D:Doc) {i:Nat} {x:Ev} (h:D.events[i]?=some x):freshE D (i+1)=freshE D i+(if x.kv.mod==D.mark&&x.kind==1 then 1 else 0):=by
 unfold freshE;rw [List.take_add_one,h,List.filter_append,List.length_append];simp only [Option.toList_some,List.filter_cons,List.filter_nil]
 split <;> simp
theorem zxl (D:Doc) (i:Nat):freshK D i<=i:=Nat.le_trans (List.length_filter_le _ _) (List.length_take_le _ _)
theorem zxm (D:Doc) (i:Nat):freshE D i<=i:=Nat.le_trans (List.length_filter_le _ _) (List.length_take_le _ _)
structure DocSm (D:Doc):Prop where
 kvs:∀ k∈D.kvs,k.key.size<=1099511627776
 evs:∀ x∈D.events,x.kv.key.size<=1099511627776/\x.prev.key.size<=1099511627776
 len:D.kvs.length+D.events.length<=100000000
theorem zhl {l:List Kv} (h:∀ i k k',0<i->l[i]?=some k->l[i-1]?=some k'->klt k'.key k.key=true):KSorted l:=by
 induction l with
 | nil=>exact List.Pairwise.nil
 | cons a l ih =>
   have d:=ih fun i k k' hi hk hk'=>by
    refine h (i+1) k k' (by omega) (by simpa using hk) ?_;rw [show i+1-1=(i-1)+1 by omega];simpa using hk'
   refine List.pairwise_cons.2 ⟨fun y e=>?_,d⟩
   cases l with
   | nil=>cases e
   | cons b l =>
     have c:klt a.key b.key=true:=h 1 b a (by omega) rfl rfl;rcases List.mem_cons.1 e with rfl | e
     · exact c
     exact zcj c ((List.pairwise_cons.1 d).1 y e)
def MayP (x:Kv) (rev:Int):Prop:=keyE x.key=0/\x.value.size<=1024/\0<=x.lease/\1<=x.create/\x.create<=x.mod/\x.mod<=rev/\(x.mod=x.create->x.version=1)/\(x.mod≠x.create->2<=x.version/\x.version<=x.mod-x.create+1)
theorem zez {x:Kv} {rev:Int}:mayB x rev=true↔MayP x rev:=by
 unfold mayB MayP;by_cases h:keyE x.key≠0\/1024<x.value.size\/x.lease<0\/x.create<1\/x.mod<x.create\/rev<x.mod
 · rw [if_pos h]
   constructor
   · intro e;cases e
   rintro ⟨a,b,c,d,e,f,_⟩
   rcases h with h | h | h | h | h | h
   · exact absurd a h
   all_goals omega
 rw [if_neg h]
 simp only [not_or,Int.not_lt,Nat.not_lt,Decidable.not_not] at h;obtain ⟨a,b,c,d,e,f⟩:=h;by_cases hm:x.mod=x.create
 · rw [if_pos hm,beq_iff_eq]
   exact ⟨fun h=>⟨a,b,c,d,e,f,fun _=>h,fun hn=>absurd hm hn⟩,fun h=>h.2.2.2.2.2.2.1 hm⟩
 rw [if_neg hm,Bool.and_eq_true,decide_eq_true_eq,decide_eq_true_eq]
 exact ⟨fun h=>⟨a,b,c,d,e,f,fun hn=>absurd hn hm,fun _=>h⟩,fun h=>h.2.2.2.2.2.2.2 hm⟩
theorem MayP.mono {x:Kv} {r r':Int} (h:MayP x r) (hr:r<=r'):MayP x r':=by
 obtain ⟨a,b,c,d,e,f,g⟩:=h;exact ⟨a,b,c,d,e,by omega,g⟩
theorem MayP.ver {x:Kv} {r:Int} (h:MayP x r):1<=x.version/\x.mod<=r/\1<=x.mod:=by
 obtain ⟨a,b,c,d,e,f,g,i⟩:=h;by_cases hm:x.mod=x.create
 · have:=g hm;omega
 have:=i hm;omega
def EvW (e:Ev):Prop :=
 (e.kind=1/\e.kv.value.size<=1024/\0<=e.kv.lease/\e.kv.create=(if e.prev.version=0 then e.kv.mod else e.prev.create)/\e.kv.version=e.prev.version+1) ∨
 (e.kind=2/\0<e.prev.version/\e.kv=⟨e.kv.key,ByteArray.empty,0,e.kv.mod,0,0⟩)
def PrevW (e:Ev):Prop:=e.prev=kv0\/(e.prev.key=e.kv.key/\MayP e.prev (e.kv.mod-1))
theorem znj {e:Ev} (h:EvW e) (h1:e.kind=1) (hk:keyE e.kv.key=0) (hm:1<=e.kv.mod) (hp:PrevW e):MayP e.kv e.kv.mod:=by
 rcases h with ⟨_,a,b,c,d⟩ | ⟨f,_⟩
 · rcases hp with hp | ⟨_,hp⟩
   · rw [hp] at c d
     have g:e.kv.create=e.kv.mod:=c;have i:e.kv.version=1:=d;exact ⟨hk,a,b,by omega,by omega,Int.le_refl _,fun _=>i,fun hn=>absurd g.symm hn⟩
   have l:=hp.ver
   obtain ⟨m,n,o,p,q,r,j,k⟩:=hp;rw [if_neg (by omega)] at c;refine ⟨hk,a,b,by omega,by omega,Int.le_refl _,fun hn=>by omega,fun _=>⟨by omega,?_⟩⟩;by_cases hq:e.prev.mod=e.prev.create
   · have:=j hq;omega
   have:=k hq;omega
 rw [h1] at f;cases f
theorem zgq {l:List Kv} (hs:KSorted l) (A:List Ev) (e:Ev) (B:List Ev) (hB:∀ y∈B,y.kv.key≠e.kv.key):hasL ((A++e :: B).foldl doneL l) e.kv.key=if e.kind=1 then some e.kv else none:=by
 rw [List.foldl_append,List.foldl_cons];have a:KSorted (doneL (A.foldl doneL l) e):=zbp (zcv hs A) e
 have b:hasL (doneL (A.foldl doneL l) e) e.kv.key=if e.kind=1 then some e.kv else none:=by
  rw [zdn (zcv hs A),if_pos (zas.2 rfl)]
 generalize doneL (A.foldl doneL l) e=m at *;rw [<-b];clear b
 induction B generalizing m with
 | nil=>rfl
 | cons y B ih =>
   rw [List.foldl_cons,ih (fun z hz=>hB z (List.mem_cons_of_mem _ hz)) _ (zbp a y),zdn a,if_neg];intro c;exact hB y List.mem_cons_self (zas.1 c).symm
set_option maxRecDepth 100000
theorem zcr {α:Type} {f:α->List Value} {P:Program} {w:World} {ops:Array Oper} {rest:List Oper} {o:Oper} {a:Act} {Q:Exit->Act->World->Prop} (hgd:o.guard=none) (s x:Operand) (t:TypeId)
 (ho:o.op=.call { callee:=.builtin .append,args:=#[s,x],argTypes:=#[t,t] })
 (e:TypeId) (i:TypeInfo) (z:Value) (sz bytes:Nat) (ht:P.underlying t=some (.slice e)) (hi:P.info? e=some i) (hz:i.zero=some z) (hsize:i.size=sz) (hby:i.bytes=bytes) (hzs:z.cells.size=sz) (hsz:0<sz)
 (v:Value) (L:List α) (hs:a.eval s=v) (hown:SlF w e sz f v L) (w0:World) (hnb:∀ k,v.ownBlock=some k->w0.heap.size<=k) (hfr:Fr No w0 w)
 (b c:Nat) (y:α) (hx:a.eval x=.slice (some ⟨b,0,none⟩) 1 c) (hnews:∀ j u,(f y)[j]?=some u->w.cell? ((⟨b,0,none⟩:Addr).add j)=some u) (hl:(f y).length=sz) (h1:∀ u∈f y,u.oneCell'=true)
 (h63:L.length+1<=maxLen) (hbytes:(L.length+1) * bytes<=140737488355328)
 (h:∀ g o' cap w',SlF w' e sz f (.slice (some ⟨g,o',none⟩) (L.length+1) cap) (L++[y])->w0.heap.size<=g->Fr No w0 w'->g<w'.heap.size →
   wpList P ops Q rest (a.put o.dst (.slice (some ⟨g,o',none⟩) (L.length+1) cap)) w'):wpList P ops Q (o :: rest) a w:=by
 refine zat hgd s x t ho e i z sz bytes ht hi hz hsize hby hzs hsz v L hs hown b c y hx hnews hl h1 h63 hbytes ?_;intro g o' cap w' d l m n;refine h g o' cap w' d ?_ (hfr.grown l fun k hk=>.inr (hnb k hk)) n;rcases m with e | e
 · exact hnb _ e
 rw [e];exact hfr.size
theorem zts {a b:ByteArray} (h:klt a b=true):Op.bytesLess a.toList b.toList=true/\Op.bytesLess b.toList a.toList=false/\(a.toList==b.toList)=false/\(b.toList==a.toList)=false/\(a.toList != b.toList)=true:=by
 have d:=zds h;have c:keq a b=false:=klt_ne h;have e:keq b a=false:=by rw [zda];exact c
 exact ⟨h,d,c,e,by unfold bne;rw [show (a.toList==b.toList)=false from c];rfl⟩
def docV (D:Doc) (vk ve:Value):Value:=.agg #[.int .i64 D.rev,.int .i64 D.mark,vk,ve]
structure DocR (w:World) (D:Doc) (vk ve:Value):Prop where
 kvs:SlR w 6 kvC vk D.kvs
 evs:SlR w 13 evC ve D.events
theorem DocR.fr0 {w w':World} {D:Doc} {vk ve:Value} (h:DocR w D vk ve) (hf:Fr No w w'):DocR w' D vk ve:=⟨h.kvs.fr0 hf,h.evs.fr0 hf⟩
theorem cells5U:Tryz.prog.cellsOf 5=1:=by kernel_rfl
theorem Fr.freeze {S:Nat->Prop} {a w:World} (h:Fr S a w) (g n:Nat) (hg:S g\/a.heap.size<=g):Fr S a (w.freeze ⟨g,0,none⟩ n):=by
 unfold World.freeze
 split
 · exact h
 refine ⟨h.os,h.tape,h.output,by simpa using h.size,fun i hi hs=>?_⟩
 rw [<-h.block i hi hs];simp only [Array.getElem?_modify]
 split
 · rename_i e
   rcases hg with b | b
   · exact absurd (e▸b) hs
   exact absurd hi (by have c:g=i:=e;omega)
 rfl
set_option maxHeartbeats 2000000 in
theorem zlf (w:World) (b:Nat) (l:List UInt8) (v:Value) (h:BdAt w b (Lib.byteCells l) v) (h0:l≠[]) :
 Calls Tryz.prog 138 #[.pointer (some ⟨b,0,none⟩)] w fun e w'=>e=.returned (.string ⟨l.toArray⟩)/\Fr (fun x=>v.ownBlock=some x) w w':=by
 obtain ⟨p,G,f,c,B⟩:=h;have m:l.length≠0:=by simpa using h0
 rw [Lib.byteCells_length] at c
 obtain ⟨g,cap,a,d,rfl,t,z,y,A,i,u,n⟩:∃ g cap a d,v=.slice (some ⟨g,0,none⟩) l.length cap/\0<=g/\w.heap[g]?=some (.cells a 5 d)/\d.2<=l.length * 1/\l.length<=cap/\cap<=maxLen/\a.size=cap * 1/\a.toList.take (l.length * 1)=Lib.byteCells l:=by
  rcases c.2 with ⟨_,E⟩ | ⟨g,cap,a,d,C,r⟩
  · exact absurd E m
  exact ⟨g,cap,a,d,C,r⟩
 have F:w.drew.cell? ⟨b,1,none⟩=some (.slice (some ⟨g,0,none⟩) l.length cap):=by
  have:w.drew.heap[b]?=some (.cells #[p,.slice (some ⟨g,0,none⟩) l.length cap] 205 (0,0)):=f;rw [Lib.cell_of_heap this];rfl
 have q:(Builtin.unsafeSliceData_ #[90] 246 #[.slice (some ⟨g,0,none⟩) l.length cap]).run Tryz.prog w.drew=.ok (.pointer (some ⟨g,0,none⟩)) w.drew :=
  Lib.run_unsafeSliceData_row _ _ _ _ _ _ (by omega)
 have s:(Builtin.unsafeString_ #[246,3] 9 #[.pointer (some ⟨g,0,none⟩),.int .i64 l.length]).run Tryz.prog w.drew=.ok (.string ⟨l.toArray⟩) (w.drew.freeze ⟨g,0,none⟩ l.length):=by
  refine Lib.run_unsafeString_row w.drew 246 3 9 5 Tryz.underlying246 cells5U g a.size (by have k:w.drew.heap[g]?=some (.cells a 5 d):=z;simp [World.shape?,k]) l h0 (by omega) (by unfold maxLen at i;omega) ?_;intro j x D;have:=c.cells (g:=g) rfl j (.int .u8 x.toNat) (by simp [Lib.byteCells,D]);exact this
 have o:Tryz.prog.follows .mixedOrders=true:=by kernel_rfl
 go_enter Tryz.func138,Tryz.ntmps138;go_wp2
 go_region_o
 all_goals (go_wp2;go_ret;exact ⟨rfl,(Fr.refl _ w).drew.freeze g _ (.inl rfl)⟩)
theorem zsy (n:Int):numB n = [72057594037927936,281474976710656,1099511627776,4294967296,16777216,65536,256,1].map fun q=>UInt8.ofNat ((n % 18446744073709551616).toNat / q % 256):=by
 unfold numB;generalize (n % 18446744073709551616).toNat=m;simp only [beN,List.nil_append,List.cons_append,List.map_cons,List.map_nil,Nat.div_div_eq_div_mul,Nat.div_one]
theorem zde (n:Int) (k:Nat) (c:Int) (u:UInt8) (hu:(numB n)[k]?=some u) (hc:(u.toNat:Int)=c):Lib.byteCells ((numB n).take (k+1))=Lib.byteCells ((numB n).take k)++[.int .u8 c]:=by
 rw [List.take_add_one,hu];simp [Lib.byteCells,hc]
theorem zfk (m q:Nat):(UInt8.ofNat (m / q % 256)).toNat=m / q % 256:=by
 rw [UInt8.toNat_ofNat'];omega
set_option maxHeartbeats 4000000 in
theorem zjp (w:World) (b:Nat) (bs:List Value) (v:Value) (g i:Nat) (e:TypeId) (cs:List Value) (n:Int) (h:BdAt w b bs v) (hg:w.heap[g]?=some (.cells cs.toArray e (0,0))) (hi:cs[i]?=some (.int .i64 n)) (hgb:g≠b) (hgv:v.ownBlock≠some g) (hlen:bs.length+8<=140737488355328) :
 Calls Tryz.prog 134 (#[.pointer (some ⟨g,i,none⟩)] ++ #[.pointer (some ⟨b,0,none⟩)]) w fun en w'=>en=.returned (.tuple #[])/\∃ v',BdAt w' b (bs++Lib.byteCells (numB n)) v'/\Fr (fun x=>x=b\/v.ownBlock=some x) w w'/\(∀ x,v'.ownBlock=some x->v.ownBlock=some x\/w.heap.size<=x):=by
 have H:=H_ h;have E:=H_ hg;have F:=H_ hi;clear h hg hi;go_enter Tryz.func134,Tryz.ntmps134;go_wp2_with fail
 go_loopg [3] 8 (fun g8 s3 wr=>∃ (k:Nat) (z:Value),s3=.int .i64 (56-8 * (k:Int))/\k+g8=8/\Hid (BdAt wr b (bs++Lib.byteCells ((numB n).take k)) z)/\Hid (Fr (fun x=>x=b\/v.ownBlock=some x) w wr)/\Hid (∀ x,z.ownBlock=some x->v.ownBlock=some x\/w.heap.size<=x))
 case atStart=>exact ⟨0,v,rfl,rfl,H_ (by simpa [Lib.byteCells] using H.out),H_ (Fr.refl _ w),H_ fun x h=>.inl h⟩
 case round =>
  obtain ⟨k,z,rfl,I,A,o,s⟩:=hrel
  cases gk with
  | zero =>
    have D:k=8:=(by omega);subst D;go_wp2_with fail;refine bodyPost_end (results_none rfl _ _ _) rfl ⟨rfl,z,?_,o.out,s.out⟩;have h:=A.out;rw [List.take_of_length_le (by rw [zam];omega)] at h;exact h
  | succ q =>
    have B:=o.out.heap E.out (by rintro (h | h);exact hgb h;exact hgv h);have G:wr.cell? ⟨g,i,none⟩=some (.int .i64 n):=cellAt B i (by simpa using F.out);have J:=zab B
    have C:∀ (j:Nat),(bs++Lib.byteCells ((numB n).take j)).length<=bs.length+j:=fun j=>by
     rw [List.length_append,Lib.byteCells_length,List.length_take];omega
    have p:=H_ C;have r:=H_ (zsy n);clear C B;rcases (show k=0\/k=1\/k=2\/k=3\/k=4\/k=5\/k=6\/k=7 by omega) with rfl | rfl | rfl | rfl | rfl | rfl | rfl | rfl
    · have u:Hid (Lib.byteCells ((numB n).take (0+1))=Lib.byteCells ((numB n).take 0)++[.int .u8 (n / 72057594037927936 % 256)]):=H_ (zde n 0 _ _ (by rw [r.out];rfl) (by rw [zfk];omega))
      have t:=H_ (zbi wr b _ z (n / 72057594037927936 % 256) A.out (by have:=p.out 0;omega));go_wp2_with (go_at_call 135;refine t.out.mono ?_;rintro en w1 ⟨rfl,y,a,c,d⟩);have f:=H_ a;have l:=H_ c;have m:=H_ d;clear a c d;go_roundg q
      case rel =>
       refine ⟨1,y,by go_num,by omega,H_ ?_,H_ (o.out.trans l.out fun x hx h=>?_),H_ fun x hx=>?_⟩
       · have h:=f.out
         rw [List.append_assoc,<-u.out] at h;exact h
       · rcases h with h | h
         · exact .inl h
         rcases s.out x h with h | h
         · exact .inr h
         omega
       rcases m.out x hx with h | h
       · exact s.out x h
       exact .inr (by have:=o.out.size;omega)
      case measure=>omega
    · have u:Hid (Lib.byteCells ((numB n).take (1+1))=Lib.byteCells ((numB n).take 1)++[.int .u8 (n / 281474976710656 % 256)]):=H_ (zde n 1 _ _ (by rw [r.out];rfl) (by rw [zfk];omega))
      have t:=H_ (zbi wr b _ z (n / 281474976710656 % 256) A.out (by have:=p.out 1;omega));go_wp2_with (go_at_call 135;refine t.out.mono ?_;rintro en w1 ⟨rfl,y,a,c,d⟩);have f:=H_ a;have l:=H_ c;have m:=H_ d;clear a c d;go_roundg q
      case rel =>
       refine ⟨2,y,by go_num,by omega,H_ ?_,H_ (o.out.trans l.out fun x hx h=>?_),H_ fun x hx=>?_⟩
       · have h:=f.out
         rw [List.append_assoc,<-u.out] at h;exact h
       · rcases h with h | h
         · exact .inl h
         rcases s.out x h with h | h
         · exact .inr h
         omega
       rcases m.out x hx with h | h
       · exact s.out x h
       exact .inr (by have:=o.out.size;omega)
      case measure=>omega
    · have u:Hid (Lib.byteCells ((numB n).take (2+1))=Lib.byteCells ((numB n).take 2)++[.int .u8 (n / 1099511627776 % 256)]):=H_ (zde n 2 _ _ (by rw [r.out];rfl) (by rw [zfk];omega))
      have t:=H_ (zbi wr b _ z (n / 1099511627776 % 256) A.out (by have:=p.out 2;omega));go_wp2_with (go_at_call 135;refine t.out.mono ?_;rintro en w1 ⟨rfl,y,a,c,d⟩);have f:=H_ a;have l:=H_ c;have m:=H_ d;clear a c d;go_roundg q
      case rel =>
       refine ⟨3,y,by go_num,by omega,H_ ?_,H_ (o.out.trans l.out fun x hx h=>?_),H_ fun x hx=>?_⟩
       · have h:=f.out
         rw [List.append_assoc,<-u.out] at h;exact h
       · rcases h with h | h
         · exact .inl h
         rcases s.out x h with h | h
         · exact .inr h
         omega
       rcases m.out x hx with h | h
       · exact s.out x h
       exact .inr (by have:=o.out.size;omega)
      case measure=>omega
    · have u:Hid (Lib.byteCells ((numB n).take (3+1))=Lib.byteCells ((numB n).take 3)++[.int .u8 (n / 4294967296 % 256)]):=H_ (zde n 3 _ _ (by rw [r.out];rfl) (by rw [zfk];omega))
      have t:=H_ (zbi wr b _ z (n / 4294967296 % 256) A.out (by have:=p.out 3;omega));go_wp2_with (go_at_call 135;refine t.out.mono ?_;rintro en w1 ⟨rfl,y,a,c,d⟩);have f:=H_ a;have l:=H_ c;have m:=H_ d;clear a c d;go_roundg q
      case rel =>
       refine ⟨4,y,by go_num,by omega,H_ ?_,H_ (o.out.trans l.out fun x hx h=>?_),H_ fun x hx=>?_⟩
       · have h:=f.out
         rw [List.append_assoc,<-u.out] at h;exact h
       · rcases h with h | h
         · exact .inl h
         rcases s.out x h with h | h
         · exact .inr h
         omega
       rcases m.out x hx with h | h
       · exact s.out x h
       exact .inr (by have:=o.out.size;omega)
      case measure=>omega
    · have u:Hid (Lib.byteCells ((numB n).take (4+1))=Lib.byteCells ((numB n).take 4)++[.int .u8 (n / 16777216 % 256)]):=H_ (zde n 4 _ _ (by rw [r.out];rfl) (by rw [zfk];omega))
      have t:=H_ (zbi wr b _ z (n / 16777216 % 256) A.out (by have:=p.out 4;omega));go_wp2_with (go_at_call 135;refine t.out.mono ?_;rintro en w1 ⟨rfl,y,a,c,d⟩);have f:=H_ a;have l:=H_ c;have m:=H_ d;clear a c d;go_roundg q
      case rel =>
       refine ⟨5,y,by go_num,by omega,H_ ?_,H_ (o.out.trans l.out fun x hx h=>?_),H_ fun x hx=>?_⟩
       · have h:=f.out
         rw [List.append_assoc,<-u.out] at h;exact h
       · rcases h with h | h
         · exact .inl h
         rcases s.out x h with h | h
         · exact .inr h
         omega
       rcases m.out x hx with h | h
       · exact s.out x h
       exact .inr (by have:=o.out.size;omega)
      case measure=>omega
    · have u:Hid (Lib.byteCells ((numB n).take (5+1))=Lib.byteCells ((numB n).take 5)++[.int .u8 (n / 65536 % 256)]):=H_ (zde n 5 _ _ (by rw [r.out];rfl) (by rw [zfk];omega))
      have t:=H_ (zbi wr b _ z (n / 65536 % 256) A.out (by have:=p.out 5;omega));go_wp2_with (go_at_call 135;refine t.out.mono ?_;rintro en w1 ⟨rfl,y,a,c,d⟩);have f:=H_ a;have l:=H_ c;have m:=H_ d;clear a c d;go_roundg q
      case rel =>
       refine ⟨6,y,by go_num,by omega,H_ ?_,H_ (o.out.trans l.out fun x hx h=>?_),H_ fun x hx=>?_⟩
       · have h:=f.out
         rw [List.append_assoc,<-u.out] at h;exact h
       · rcases h with h | h
         · exact .inl h
         rcases s.out x h with h | h
         · exact .inr h
         omega
       rcases m.out x hx with h | h
       · exact s.out x h
       exact .inr (by have:=o.out.size;omega)
      case measure=>omega
    · have u:Hid (Lib.byteCells ((numB n).take (6+1))=Lib.byteCells ((numB n).take 6)++[.int .u8 (n / 256 % 256)]):=H_ (zde n 6 _ _ (by rw [r.out];rfl) (by rw [zfk];omega))
      have t:=H_ (zbi wr b _ z (n / 256 % 256) A.out (by have:=p.out 6;omega));go_wp2_with (go_at_call 135;refine t.out.mono ?_;rintro en w1 ⟨rfl,y,a,c,d⟩);have f:=H_ a;have l:=H_ c;have m:=H_ d;clear a c d;go_roundg q
      case rel =>
       refine ⟨7,y,by go_num,by omega,H_ ?_,H_ (o.out.trans l.out fun x hx h=>?_),H_ fun x hx=>?_⟩
       · have h:=f.out
         rw [List.append_assoc,<-u.out] at h;exact h
       · rcases h with h | h
         · exact .inl h
         rcases s.out x h with h | h
         · exact .inr h
         omega
       rcases m.out x hx with h | h
       · exact s.out x h
       exact .inr (by have:=o.out.size;omega)
      case measure=>omega
    have u:Hid (Lib.byteCells ((numB n).take (7+1))=Lib.byteCells ((numB n).take 7)++[.int .u8 (n % 256)]):=H_ (zde n 7 _ _ (by rw [r.out];rfl) (by rw [zfk];omega))
    have t:=H_ (zbi wr b _ z (n % 256) A.out (by have:=p.out 7;omega));go_wp2_with (go_at_call 135;refine t.out.mono ?_;rintro en w1 ⟨rfl,y,a,c,d⟩);have f:=H_ a;have l:=H_ c;have m:=H_ d;clear a c d;go_roundg q
    case rel =>
     refine ⟨8,y,by go_num,by omega,H_ ?_,H_ (o.out.trans l.out fun x hx h=>?_),H_ fun x hx=>?_⟩
     · have h:=f.out
       rw [List.append_assoc,<-u.out] at h;exact h
     · rcases h with h | h
       · exact .inl h
       rcases s.out x h with h | h
       · exact .inr h
       omega
     rcases m.out x hx with h | h
     · exact s.out x h
     exact .inr (by have:=o.out.size;omega)
    case measure=>omega
theorem zjt (t:ByteArray):Lib.strCells t=Lib.byteCells t.data.toList:=by
 unfold Lib.strCells Lib.byteCells
 first | rfl | simp
theorem zdj (a b:List UInt8):Lib.byteCells (a++b)=Lib.byteCells a++Lib.byteCells b:=by simp [Lib.byteCells]
theorem zsq {α:Type} {l:List α} {i:Nat} {x:α} (h:l[i]?=some x):l.set i x=l:=by
 apply List.ext_getElem?;intro j;by_cases hj:i=j
 · subst hj
   rw [List.getElem?_set_self (List.getElem?_eq_some_iff.1 h).1,h]
 rw [List.getElem?_set_ne hj]
set_option maxHeartbeats 4000000 in
theorem zqk (w:World) (b nb:Nat) (s:List UInt8) (v:Value) (g i:Nat) (e:TypeId) (cs:List Value) (t:ByteArray) (h:BdAt w b (Lib.byteCells s) v) (hn:Has w nb [.func (.func 134) #[] #[.pointer (some ⟨b,0,none⟩)]]) (hg:w.heap[g]?=some (.cells cs.toArray e (0,0))) (hi:cs[i]?=some (.string t))
 (hgb:g≠b) (hgv:v.ownBlock≠some g) (_hnb:nb≠b) (_hnv:v.ownBlock≠some nb) (hlen:s.length+8+t.size<=140737488355328) :
 Calls Tryz.prog 136 (#[.pointer (some ⟨g,i,none⟩)] ++ #[.pointer (some ⟨nb,0,none⟩),.pointer (some ⟨b,0,none⟩)]) w fun en w'=>en=.returned (.tuple #[])/\∃ v',BdAt w' b (Lib.byteCells (s++txtB t)) v'/\Fr (fun x=>x=b\/v.ownBlock=some x) w w'/\(∀ x,v'.ownBlock=some x->v.ownBlock=some x\/w.heap.size<=x):=by
 have J:w.cell? ⟨g,i,none⟩=some (.string t):=cellAt hg i (by simpa using hi);have K:=zab hg;have M:=hn.cell 0 rfl;have L:=hn.lt;have n:=h.lt;have o:=zad w (Obj.cells #[.int .i64 t.size] 3) _ rfl;have d:Fr No w (w.alloc (Obj.cells #[.int .i64 t.size] 3)):=(Fr.refl No w).alloc _;have k:=zjp (w.alloc (Obj.cells #[.int .i64 t.size] 3)) b (Lib.byteCells s) v w.heap.size 0 3 [.int .i64 t.size] t.size (h.fr d (fun h=>h) (fun _ _ h=>h)) (by simpa using o) rfl (by have:=n.1;omega) (fun h2=>by have:=n.2 _ h2;omega) (by rw [Lib.byteCells_length];omega);have r:=H_ k;have y:=H_ d;have E:=H_ hg;have F:=H_ hi;clear k h hn hg hi o d;go_enter Tryz.func136,Tryz.ntmps136;go_upto_region 2 with (go_at_call 134;refine r.out.mono ?_;rintro en C ⟨rfl,D,m,p,q⟩)
 have a:Fr (fun x=>x=b\/v.ownBlock=some x) w C:=(y.out.mono fun _ _ h=>h.elim).trans p fun _ _ h=>h;have f:=a.heap E.out (by rintro (h | h);exact hgb h;exact hgv h);have G:C.cell? ⟨g,i,none⟩=some (.string t):=cellAt f i (by simpa using F.out);have H:=zab f;have l:=zib C b _ D t m (by rw [List.length_append,Lib.byteCells_length,Lib.byteCells_length,zam];omega);have u:=H_ l;have c:=H_ a
 have j:Hid (∀ x,D.ownBlock=some x->v.ownBlock=some x\/w.heap.size<=x):=H_ fun x hx=>by
  rcases q x hx with h | h
  · exact .inl h
  simp at h;exact .inr (by omega)
 clear l a p m q f;go_wp2_with (go_at_call 137;refine u.out.mono ?_;rintro en N ⟨rfl,I,z,A,B⟩);refine bodyPost_end (results_none rfl _ _ _) rfl ⟨rfl,I,?_,c.out.trans A fun x hx h=>?_,fun x hx=>?_⟩
 · have h:=z
   rw [zjt,<-zdj,<-zdj,List.append_assoc] at h;exact h
 · rcases h with h | h
   · exact .inl h
   rcases j.out x h with h | h
   · exact .inr h
   omega
 rcases B x hx with h | h
 · exact j.out x h
 exact .inr (by have:=c.out.size;omega)
def wrC (c nb b:Nat):Cod (List UInt8) where
 c:=c
 nf:=134
 tf:=136
 nc:=#[.pointer (some ⟨b,0,none⟩)]
 tc:=#[.pointer (some ⟨nb,0,none⟩),.pointer (some ⟨b,0,none⟩)]
 num:=fun s n=>(s++numB n,n)
 txt:=fun s t=>(s++txtB t,t)
 bad:=fun _=>false
 small:=fun s=>s.length<=140737488355328
 At:=fun w s F=>∃ v,BdAt w b (Lib.byteCells s) v/\Has w c [.func (.func 134) #[] #[.pointer (some ⟨b,0,none⟩)],.func (.func 136) #[] #[.pointer (some ⟨nb,0,none⟩),.pointer (some ⟨b,0,none⟩)],.bool false]/\Has w nb [.func (.func 134) #[] #[.pointer (some ⟨b,0,none⟩)]] ∧
  c≠b/\nb≠b/\c≠nb/\v.ownBlock≠some c/\v.ownBlock≠some nb/\∀ x,F x↔(x=c\/x=nb\/x=b\/v.ownBlock=some x)
theorem wrC_ok (c nb b:Nat):CodOk (wrC c nb b) where
 enf:=fun args w=>enters_of Tryz.func134 (by kernel_rfl) rfl args w
 etf:=fun args w=>enters_of Tryz.func136 (by kernel_rfl) rfl args w
 cell:=fun w s F h=>h.elim fun v h=>h.2.1
 lt:=fun w s F h x hx=>by
  obtain ⟨v,h1,h2,h3,h4,h5,h6,h7,h8,h9⟩:=h;rcases (h9 x).1 hx with rfl | rfl | rfl | h
  · exact h2.lt
  · exact h3.lt
  · exact h1.lt.1
  exact h1.lt.2 x h
 inF:=fun w s F h=>h.elim fun v h=>(h.2.2.2.2.2.2.2.2 c).2 (.inl rfl)
 fr:=fun w w' s F S h hf hn=>by
  obtain ⟨v,h1,h2,h3,h4,h5,h6,h7,h8,h9⟩:=h;refine ⟨v,h1.fr hf (fun h=>hn _ h ((h9 _).2 (.inr (.inr (.inl rfl))))) (fun x hx h=>hn _ h ((h9 _).2 (.inr (.inr (.inr hx))))),h2.fr hf (fun h=>hn _ h ((h9 _).2 (.inl rfl))),h3.fr hf (fun h=>hn _ h ((h9 _).2 (.inr (.inl rfl)))),h4,h5,h6,h7,h8,h9⟩
 snum:=fun s n h=>by
  have h':(s++numB n).length<=140737488355328:=h;rw [List.length_append] at h'
  show s.length<=140737488355328
  omega
 stxt:=fun s t h=>by
  have h':(s++txtB t).length<=140737488355328:=h;rw [List.length_append] at h'
  show s.length<=140737488355328
  omega
 num:=fun w s F g e cs i n hA hg hi hF hsm=>by
  obtain ⟨v,h1,h2,h3,h4,h5,h6,h7,h8,h9⟩:=hA;have hsm':(s++numB n).length<=140737488355328:=hsm;rw [List.length_append,zam] at hsm';have hgb:g≠b:=fun e=>hF ((h9 _).2 (.inr (.inr (.inl e))));have hgv:v.ownBlock≠some g:=fun e=>hF ((h9 _).2 (.inr (.inr (.inr e))));refine (zjp w b (Lib.byteCells s) v g i e cs n h1 hg hi hgb hgv (by rw [Lib.byteCells_length];omega)).mono ?_;rintro en w' ⟨rfl,v',a1,a2,a3⟩;rw [<-zdj] at a1;have hc:=h2.lt;have hn:=h3.lt
  have hne:∀ x,x<w.heap.size->v.ownBlock≠some x->v'.ownBlock≠some x:=fun x hx h h2=>by
   rcases a3 x h2 with h3 | h3
   · exact h h3
   omega
  refine ⟨rfl,fun x=>x=c\/x=nb\/x=b\/v'.ownBlock=some x,⟨v',a1,h2.fr a2 (by rintro (h | h);exact h4 h;exact h7 h),h3.fr a2 (by rintro (h | h);exact h5 h;exact h8 h),h4,h5,h6,hne c hc h7,hne nb hn h8,fun x=>Iff.rfl⟩,?_,?_,?_⟩
  · show w'.heap[g]?=some (.cells (cs.set i (.int .i64 n)).toArray e (0,0))
    rw [zsq hi];exact a2.heap hg (by rintro (h | h);exact hgb h;exact hgv h)
  · exact a2.mono fun x _ h=>.inl ((h9 x).2 (by rcases h with h | h;exact .inr (.inr (.inl h));exact .inr (.inr (.inr h))))
  rintro x (h | h | h | h)
  · exact .inl ((h9 x).2 (.inl h))
  · exact .inl ((h9 x).2 (.inr (.inl h)))
  · exact .inl ((h9 x).2 (.inr (.inr (.inl h))))
  rcases a3 x h with h | h
  · exact .inl ((h9 x).2 (.inr (.inr (.inr h))))
  exact .inr h
 txt:=fun w s F g e cs i t hA hg hi hF hsm=>by
  obtain ⟨v,h1,h2,h3,h4,h5,h6,h7,h8,h9⟩:=hA;have hsm':(s++txtB t).length<=140737488355328:=hsm;have ht:t.data.toList.length=t.size:=rfl;unfold txtB at hsm';rw [List.length_append,List.length_append,zam,ht] at hsm';have hgb:g≠b:=fun e=>hF ((h9 _).2 (.inr (.inr (.inl e))));have hgv:v.ownBlock≠some g:=fun e=>hF ((h9 _).2 (.inr (.inr (.inr e))));refine (zqk w b nb s v g i e cs t h1 h3 hg hi hgb hgv h5 h8 (by omega)).mono ?_;rintro en w' ⟨rfl,v',a1,a2,a3⟩;have hc:=h2.lt;have hn:=h3.lt
  have hne:∀ x,x<w.heap.size->v.ownBlock≠some x->v'.ownBlock≠some x:=fun x hx h h2=>by
   rcases a3 x h2 with h3 | h3
   · exact h h3
   omega
  refine ⟨rfl,fun x=>x=c\/x=nb\/x=b\/v'.ownBlock=some x,⟨v',a1,h2.fr a2 (by rintro (h | h);exact h4 h;exact h7 h),h3.fr a2 (by rintro (h | h);exact h5 h;exact h8 h),h4,h5,h6,hne c hc h7,hne nb hn h8,fun x=>Iff.rfl⟩,?_,?_,?_⟩
  · show w'.heap[g]?=some (.cells (cs.set i (.string t)).toArray e (0,0))
    rw [zsq hi];exact a2.heap hg (by rintro (h | h);exact hgb h;exact hgv h)
  · exact a2.mono fun x _ h=>.inl ((h9 x).2 (by rcases h with h | h;exact .inr (.inr (.inl h));exact .inr (.inr (.inr h))))
  rintro x (h | h | h | h)
  · exact .inl ((h9 x).2 (.inl h))
  · exact .inl ((h9 x).2 (.inr (.inl h)))
  · exact .inl ((h9 x).2 (.inr (.inr (.inl h))))
  rcases a3 x h with h | h
  · exact .inl ((h9 x).2 (.inr (.inr (.inr h))))
  exact .inr h
theorem zzaf (c nb b:Nat):(wrC c nb b).way=wrW:=rfl
end Go.Proofs.YthljnnjpmdgkoaaGreat