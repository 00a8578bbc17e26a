/- Own lemmas and contracts that the claim's proof needs, laid together. The conditions stand in each. -/
import Derived.Test.YthljnnjpmdgkoaaGreatB19
import Derived.Test.YthljnnjpmdgkoaaGreatB18
namespace Go.Proofs.YthljnnjpmdgkoaaGreat
open Go Go.Proofs Go.RowKit
set_option maxRecDepth 100000
def layGn (w:World) (g o:Nat) (y:Gen × Value):World:=((((w.setCell ⟨g,o,none⟩ (.int .i64 y.1.create)).setCell ⟨g,o+1,none⟩ (.int .i64 y.1.cut)).setCell ⟨g,o+2,none⟩ (y.2)).setCell ⟨g,o+3,none⟩ (.int .i64 y.1.end_))
theorem zus {w:World} {g o cap:Nat} {L:List (Gen × Value)} (h:SlF w 223 4 genC (.slice (some ⟨g,o,none⟩) L.length cap) L) (i:Nat) {x:Gen × Value} (hx:L[i]? = some x) (y:Gen × Value) :
 SlF (layGn w g (o+i * 4) y) 223 4 genC (.slice (some ⟨g,o,none⟩) L.length cap) (L.set i y):=by
 have hi:=(List.getElem?_eq_some_iff.1 hx).1
 have step:∀ {w:World} {M:List (Gen × Value)} {z:Gen × Value} (j:Nat) (u:Value) (z':Gen × Value),j < 4->M.length=L.length->SlF w 223 4 genC (.slice (some ⟨g,o,none⟩) L.length cap) M->M[i]? = some z->genC z'=(genC z).set j u →
  SlF (w.setCell ⟨g,o+i * 4+j,none⟩ u) 223 4 genC (.slice (some ⟨g,o,none⟩) L.length cap) (M.set i z'):=by
  intro w M z j u z' hj hM hs hz he;rw [<-hM] at hs ⊢
  exact hs.set zal i j hj z z' u hz he
 have s0:=step (z:=x) 0 (.int .i64 y.1.create) ((⟨y.1.create,x.1.cut,x.1.puts,x.1.end_⟩:Gen),x.2) (by omega) rfl h hx rfl;have s1:=step (z:=((⟨y.1.create,x.1.cut,x.1.puts,x.1.end_⟩:Gen),x.2)) 1 (.int .i64 y.1.cut) ((⟨y.1.create,y.1.cut,x.1.puts,x.1.end_⟩:Gen),x.2) (by omega) (by simp) s0 (by simp [hi]) rfl;have s2:=step (z:=((⟨y.1.create,y.1.cut,x.1.puts,x.1.end_⟩:Gen),x.2)) 2 (y.2) ((⟨y.1.create,y.1.cut,x.1.puts,x.1.end_⟩:Gen),y.2) (by omega) (by simp) s1 (by simp [hi]) rfl;have s3:=step (z:=((⟨y.1.create,y.1.cut,x.1.puts,x.1.end_⟩:Gen),y.2)) 3 (.int .i64 y.1.end_) y (by omega) (by simp) s2 (by simp [hi]) rfl;simpa [layGn,List.set_set] using s3
theorem zut {S:Nat->Prop} {a w:World} (h:Fr S a w) (g o:Nat) (y:Gen × Value) (hg:S g):Fr S a (layGn w g o y):=by
 unfold layGn;exact (((h.setCell (.inl hg) _).setCell (.inl hg) _).setCell (.inl hg) _).setCell (.inl hg) _
def endP (rev:Int) (x:Gen × Value):Bool:=endB rev x.1
def keptP (rev:Int) (x:Gen × Value):Bool:=!endP rev x
def idxGn (P:Gen × Value->Bool) (l:List (Gen × Value)):Int:=if l.findIdx P=l.length then -1 else (l.findIdx P:Int)
theorem firstP {rev:Int} {L:List (Gen × Value)} {k:Nat} (h:L.findIdx (endP rev)=k) (hk:k < L.length):(L.take (k+1)).filter (keptP rev)=L.take k:=by
 obtain ⟨x,hx⟩:∃ x,L[k]? = some x:=⟨_,List.getElem?_eq_getElem hk⟩
 have hp:endP rev x=true:=by
  have:=(List.findIdx_eq hk).1 h;rw [(List.getElem?_eq_some_iff.1 hx).2] at this;exact this.1
 rw [List.take_add_one,hx,List.filter_append]
 have h1:(L.take k).filter (keptP rev)=L.take k:=by
  rw [List.filter_eq_self];intro y hy;obtain ⟨j,hj⟩:=List.mem_iff_getElem?.1 hy;have hjl:=(List.getElem?_eq_some_iff.1 hj).1;rw [List.length_take] at hjl;rw [List.getElem?_take_of_lt (by omega)] at hj;have:=((List.findIdx_eq hk).1 h).2 j (by omega);rw [(List.getElem?_eq_some_iff.1 hj).2] at this;unfold keptP;rw [this];rfl
 rw [h1];simp [keptP,hp]
theorem allP {rev:Int} {L:List (Gen × Value)} (h:L.findIdx (endP rev)=L.length):L.filter (keptP rev)=L:=by
 rw [List.filter_eq_self];intro y hy;rw [List.findIdx_eq_length] at h;unfold keptP;rw [h y hy];rfl
theorem zrv (l:List (Gen × Value)) (k:Nat) (x:Gen × Value) (h:k < l.length):(l.set k x).take (k+1)=l.take k++[x]:=by
 rw [List.take_add_one,List.getElem?_set_self h]
 congr 1
 refine List.ext_getElem? fun j=>?_;by_cases hj:j < k
 · rw [List.getElem?_take_of_lt hj,List.getElem?_take_of_lt hj,List.getElem?_set_ne (by omega)]
 rw [List.getElem?_eq_none (by simp;omega),List.getElem?_eq_none (by simp;omega)]
theorem zrw (l:List (Gen × Value)) (k i:Nat) (x:Gen × Value) (h:k < i):(l.set k x).drop i=l.drop i:=by
 refine List.ext_getElem? fun j=>?_;rw [List.getElem?_drop,List.getElem?_drop,List.getElem?_set_ne (by omega)]
def zv190:Value:=.agg #[.int .i64 0,.int .i64 0,.slice none 0 0,.int .i64 0]
theorem zero190 (w:World):(zeroValue 223).run Tryz.prog w = .ok zv190 w:=by kernel_rfl
set_option maxHeartbeats 2000000 in
theorem znr (w:World) (v:Value) (l:List (Gen × Value)) (rb:Nat) (rev:Int) (hb:w.cell? ⟨rb,0,none⟩=some (.int .i64 rev)) (hv:SlF w 223 4 genC v l) (hl:l.length<=1099511627) :
 Calls Tryz.prog 167 #[v,.func (.func 146) #[] #[.pointer (some ⟨rb,0,none⟩)]] w fun e w'=>e = .returned (.int .i64 (idxGn (endP rev) l))/\Fr No w w':=by
 obtain ⟨a,cap,rfl,hc1,hc2,ha⟩:=hv.shape;have HV:=H_ hv;clear hv;have HA:=H_ ha;clear ha;have HB:=H_ hb;clear hb;go_enter Tryz.func167,Tryz.ntmps167;go_wp2
 go_loopg [8] l.length (fun g s8 wr=>∃ i:Nat,s8 = .int .i64 i/\i+g=l.length/\Hid (∀ j,j < i->∀ p,l[j]? = some p->endP rev p=false)/\Hid (Fr No w wr))
 case atStart=>exact ⟨0,rfl,by simp,H_ (by simp),H_ (Fr.refl No w)⟩
 case round =>
  obtain ⟨i,rfl,hi,HJ,HF⟩:=hrel
  cases gk with
  | zero =>
    have hil:¬ (i:Int) < (l.length:Int):=(by omega);go_wp2;go_ret;refine ⟨?_,HF.out⟩
    have hu:l.findIdx (endP rev)=l.length:=by
     rw [List.findIdx_eq_length];intro x hx;obtain ⟨j,hj,rfl⟩:=List.getElem_of_mem hx;exact HJ.out j (by omega) _ (List.getElem?_eq_getElem hj)
    unfold idxGn;rw [if_pos hu]
    rfl
  | succ g =>
    obtain ⟨gb,go,rfl⟩:=HA.out (by omega);obtain ⟨p,hx⟩:∃ p,l[i]? = some p:=⟨_,List.getElem?_eq_getElem (by omega)⟩;have hvr:=HV.out.fr0 HF.out;have x0:=hvr.cell0 zal i hx rfl;have x1:=hvr.cell zal i 1 hx rfl;have x2:=hvr.cell zal i 2 hx rfl;have x3:=hvr.cell zal i 3 hx rfl;have hil:(i:Int) < (l.length:Int):=(by omega);have hcl:=zin wr p.1 p.2 rb rev (HF.out.cell0 HB.out);have hob:endB rev p.1=endP rev p:=rfl;rw [hob] at hcl;have Hx:=H_ hx;clear hx hvr hob;generalize hp:endP rev p=q at *;have Hp:=H_ hp;clear hp;cases q
    · go_wp2_with (go_at_call 146;refine hcl.mono ?_;rintro e w1 ⟨rfl,hf⟩)
      go_roundg g
      case rel=>exact ⟨i+1,by go_num,by omega,H_ (fun j hj q hq=>by
       by_cases hji:j=i
       · subst hji;rw [Hx.out] at hq;cases hq;exact Hp.out
       exact HJ.out j (by omega) q hq),H_ (HF.out.trans0 hf)⟩
      case measure=>omega
    go_wp2_with (go_at_call 146;refine hcl.mono ?_;rintro e w1 ⟨rfl,hf⟩)
    go_ret;refine ⟨?_,HF.out.trans0 hf⟩
    have hu:l.findIdx (endP rev)=i:=by
     have hil':i < l.length:=(by omega);rw [List.findIdx_eq hil'];have hgi:l[i] = p:=(List.getElem?_eq_some_iff.1 Hx.out).2;refine ⟨by rw [hgi];exact Hp.out,fun j hj=>?_⟩;exact HJ.out j hj _ (List.getElem?_eq_getElem (by omega))
    unfold idxGn;rw [hu,if_neg (by omega)]
    rfl
set_option maxHeartbeats 8000000 in
theorem zod (w:World) (v:Value) (L:List (Gen × Value)) (rb:Nat) (rev:Int) (hb:w.cell? ⟨rb,0,none⟩=some (.int .i64 rev)) (hv:SlF w 223 4 genC v L) (hn:v.ownBlock≠some rb) (hl:L.length<=1099511627) (hsh:∀ p∈L,∃ a n c,p.2 = .slice a n c) :
 Calls Tryz.prog 145 #[v,.func (.func 146) #[] #[.pointer (some ⟨rb,0,none⟩)]] w fun e w'=>∃ v',e = .returned v'/\SlF w' 223 4 genC v' (L.filter (keptP rev))/\Fr (fun b=>v.ownBlock=some b) w w'/\v'.ownBlock=v.ownBlock:=by
 have hix:=fun W (h:Fr No w W)=>znr W v L rb rev (h.cell0 hb) (hv.fr0 h) hl;obtain ⟨a,cap,rfl,hc1,hc2,ha⟩:=hv.shape;have HIX:=H_ hix;clear hix;by_cases h0:L.findIdx (endP rev)=L.length
 · have hidx:idxGn (endP rev) L = -1:=by unfold idxGn;rw [if_pos h0]
   rw [hidx] at HIX;have hfa:=allP h0;rw [hfa];have HV:=H_ hv;clear hv hidx h0 hfa hsh;go_enter Tryz.func145,Tryz.ntmps145;go_wp2_with (go_at_call 167;refine (HIX.out _ (Fr.refl No w)).mono ?_;rintro e w1 ⟨rfl,hf1⟩);go_ret;exact ⟨_,rfl,HV.out.fr0 hf1,hf1.mono fun _ _ h=>h.elim,rfl⟩
 have hk:L.findIdx (endP rev) < L.length:=Nat.lt_of_le_of_ne List.findIdx_le_length h0
 have hidx:idxGn (endP rev) L=(L.findIdx (endP rev):Int):=(by unfold idxGn;rw [if_neg h0]);rw [hidx] at HIX;have hff:=firstP rfl hk;generalize hkk:L.findIdx (endP rev)=k0 at *;obtain ⟨gb,go,rfl⟩:=ha (by omega);have hnr:gb≠rb:=fun e=>hn (by rw [<-e];rfl);have HV:=H_ hv;have HB:=H_ hb;have HFF:=H_ hff;have HSH:=H_ hsh;clear hv hidx h0 hff hkk ha hb hn hsh;have hk0:((k0:Int) == -1)=false:=(by rw [beq_eq_false_iff_ne];omega);go_enter Tryz.func145,Tryz.ntmps145;go_wp2_with (go_at_call 167;refine (HIX.out _ (Fr.refl No w)).mono ?_;rintro e w1 ⟨rfl,hf1⟩)
 go_loopg [5,6] L.length (fun g s5 s6 wr=>∃ (k i:Nat) (M:List (Gen × Value)),s5 = .int .i64 k/\s6 = .int .i64 i/\k < i/\i<=L.length/\i+g=L.length+k0+1/\k0 < i/\M.length=L.length/\Hid (M.take k=(L.take i).filter (keptP rev))/\Hid (M.drop i=L.drop i) ∧
  Hid (SlF wr 223 4 genC (.slice (some ⟨gb,go,none⟩) L.length cap) M)/\Hid (Fr (fun b=>b=gb) w wr))
 case atStart=>exact ⟨k0,k0+1,L,rfl,by go_num,by omega,by omega,by omega,by omega,rfl,H_ HFF.out.symm,H_ rfl,H_ (HV.out.fr0 hf1),H_ (hf1.mono fun _ _ h=>h.elim)⟩
 case round =>
  obtain ⟨k,i,M,rfl,rfl,hki,hiL,hig,hk0i,hM,HT,HD,HS,HF⟩:=hrel;by_cases hil:i < L.length
  · cases gk with
    | zero=>omega
    | succ g =>
      have hil':(i:Int) < (L.length:Int):=(by omega);have hkl':(k:Int) < (L.length:Int):=(by omega);obtain ⟨x,hx⟩:∃ x,L[i]? = some x:=⟨_,List.getElem?_eq_getElem hil⟩
      have hMx:M[i]? = some x:=by
       have:=congrArg (fun l=>l[0]?) HD.out;simp only [List.getElem?_drop,Nat.add_zero] at this;rw [this];exact hx
      have hsl:SlF wr 223 4 genC (.slice (some ⟨gb,go,none⟩) M.length cap) M:=(by rw [hM];exact HS.out);obtain ⟨y,hy⟩:∃ y,M[k]? = some y:=⟨_,List.getElem?_eq_getElem (by omega)⟩;have lgb:gb < wr.heap.size:=hsl.lt gb rfl;have hrb:=HF.out.cell HB.out (fun e=>hnr e.symm);have hoc:=fun W (h:Fr No wr W)=>zin W x.1 x.2 rb rev (h.cell0 hrb);have hfz:∀ j,wr.frozen? ⟨gb,j,none⟩=false:=fun j=>hsl.free j;have hob:endB rev x.1=endP rev x:=rfl;rw [hob] at hoc;obtain ⟨xa,xn,xc,hxe⟩:=HSH.out x (List.mem_of_getElem? hx)
      have hlk:∀ (W:World),Fr No wr W->SlF (layGn W gb (go+k * 4) x) 223 4 genC (.slice (some ⟨gb,go,none⟩) L.length cap) (M.set k x):=fun (W:World) (h:Fr No wr W)=>by
       have:=zus (hsl.fr0 h) k hy x;rw [hM] at this;exact this
      have hlf:=fun (W:World) (h:Fr (fun b=>b=gb) w W)=>zut h gb (go+k * 4) x rfl
      have htk:(L.take (i+1)).filter (keptP rev)=(L.take i).filter (keptP rev)++(if endP rev x then [] else [x]):=by
       rw [List.take_add_one,hx,List.filter_append]
       congr 1
       cases hq:endP rev x <;> simp [keptP,hq]
      have hdk:M.drop (i+1)=L.drop (i+1):=by
       have:=congrArg (List.drop 1) HD.out
       rwa [List.drop_drop,List.drop_drop] at this
      generalize hq:endP rev x=q at *;have z0:=hsl.cell0 zal i hMx rfl;have u0:=hsl.cell0 zal k hy rfl;have z1:=hsl.cell zal i 1 hMx rfl;have u1:=hsl.cell zal k 1 hy rfl;have z2:=hsl.cell zal i 2 hMx rfl;have u2:=hsl.cell zal k 2 hy rfl;have z3:=hsl.cell zal i 3 hMx rfl;have u3:=hsl.cell zal k 3 hy rfl;have HLK:=H_ hlk;have HLF:=H_ hlf;have HOC:=H_ hoc;have HTK:=H_ htk;have HDK:=H_ hdk;have HSL:=H_ hsl;clear hlk hlf hoc htk hdk hsl hx hMx hq hob;obtain ⟨⟨x0,x1,xp,x3⟩,pv⟩:=x;dsimp only at hxe;subst hxe;unfold layGn at HLK HLF;dsimp only at *;cases q
      · go_wp2_with (go_at_call 146;refine (HOC.out _ ((Fr.refl No wr).alloc _)).mono ?_;rintro e w2 ⟨rfl,hf2⟩
                     have hkc:=hf2.heap (zad wr (Obj.cells #[.int .i64 x0,.int .i64 x1,.slice xa xn xc,.int .i64 x3] 223) _ rfl) id;have hf3:Fr No wr w2:=((Fr.refl No wr).alloc _).trans0 hf2;have c0:w2.cell? ⟨wr.heap.size,0,none⟩=some (.int .i64 x0):=cellAt hkc 0 rfl;have u0:=hf3.cell0 u0;have c1:w2.cell? ⟨wr.heap.size,1,none⟩=some (.int .i64 x1):=cellAt hkc 1 rfl;have u1:=hf3.cell0 u1;have c2:w2.cell? ⟨wr.heap.size,2,none⟩=some (.slice xa xn xc):=cellAt hkc 2 rfl;have u2:=hf3.cell0 u2;have c3:w2.cell? ⟨wr.heap.size,3,none⟩=some (.int .i64 x3):=cellAt hkc 3 rfl;have u3:=hf3.cell0 u3;have hfz2:∀ j,w2.frozen? ⟨gb,j,none⟩=false:=fun j=>(HSL.out.fr0 hf3).free j;have lgb2:gb < w2.heap.size:=Nat.lt_of_lt_of_le lgb hf3.size;have lkc:=zac hkc;clear hkc hf2)
        go_roundg g
        case rel=>exact ⟨k+1,i+1,_,by go_num,by go_num,by omega,by omega,by omega,by omega,by rw [List.length_set];exact hM,H_ (by rw [zrv _ _ _ (by omega),HTK.out,HT.out];simp),H_ (by rw [zrw _ _ _ _ (by omega)];exact HDK.out),H_ (HLK.out w2 hf3),H_ (HLF.out w2 (HF.out.trans0 hf3))⟩
        case measure=>omega
      go_wp2_with (go_at_call 146;refine (HOC.out _ ((Fr.refl No wr).alloc _)).mono ?_;rintro e w2 ⟨rfl,hf2⟩)
      go_roundg g
      case rel=>exact ⟨k,i+1,M,rfl,by go_num,by omega,by omega,by omega,by omega,hM,H_ (by rw [HTK.out,HT.out];simp),HDK,H_ (HS.out.fr0 (((Fr.refl No wr).alloc _).trans0 hf2)),H_ (HF.out.trans0 (((Fr.refl No wr).alloc _).trans0 hf2))⟩
      case measure=>omega
  have hil':¬ (i:Int) < (L.length:Int):=by omega
  have hie:i=L.length:=(by omega);have HTL:Hid (M.take k=L.filter (keptP rev)):=H_ (by rw [HT.out,hie,List.take_length]);clear HT HD HIX HV HB HFF;have hkl:(k:Int)<=(L.length:Int):=(by omega);have hkc:(k:Int)<=(cap:Int):=(by omega);have hkc2:k<=cap:=(by omega);have hkc3:¬ cap=k:=(by omega);have hsl:SlF wr 223 4 genC (.slice (some ⟨gb,go,none⟩) M.length cap) M:=(by rw [hM];exact HS.out)
  obtain ⟨cur,hcur,hfit⟩:∃ cur:Array Value,wr.heap[gb]? = some (.cells cur 223 (0,0))/\go+L.length * 4<=cur.size:=by
   rcases hsl.2 with ⟨h0,_⟩ | ⟨g',o',cap',cur,hv,hg,h2,h3,h4,h5⟩
   · cases h0
   simp only [Value.slice.injEq,Option.some.injEq,Addr.mk.injEq,and_true] at hv
   obtain ⟨⟨rfl,rfl⟩,_,rfl⟩:=hv;have:L.length * 4<=cap * 4:=Nat.mul_le_mul_right _ (by omega);exact ⟨cur,hg,by omega⟩
  have hkm:go+k * 4+(L.length - k) * 4<=cur.size:=(by omega);obtain ⟨w3,hrun,hg3,hgr⟩:=zep (P:=Tryz.prog) wr 220 223 0 _ Tryz.underlying220 zero190 (by decide) gb (go+k * 4) (L.length - k) (cap - k) cur 223 hcur (by exact hkm);have hfr3:Fr (fun b=>b=gb) wr w3:=(Fr.refl _ wr).grown hgr fun j hj=>.inl (by simpa using hj.symm);have hcl:=SlF.cleared zal hsl k (by omega) cur hcur (Builtin.zeroCells zv190.cells (L.length - k)).toList (by rw [zbn,hM];rfl) (by rw [hM];exact hg3);have HCL:=H_ hcl;clear hsl hcl hg3 hgr hcur hfit hkm;go_wp2;go_ret;exact ⟨_,rfl,by rw [<-HTL.out];exact HCL.out,(HF.out.trans hfr3 fun _ _ h=>h).mono fun b _ h=>by rw [h];rfl,rfl⟩
def compK (rev:Int) (K:List Gen):List Gen:=(K.filter fun x=>!endB rev x).map (compG rev)
theorem zmf (rev:Int) (Z:List (Gen × Value)):(Z.filter (keptP rev)).map (·.1)=(Z.map (·.1)).filter fun x=>!endB rev x:=by
 rw [List.filter_map]
 rfl
theorem KeyRep.kept {w w':World} {g:Nat} {v v':Value} {Z:List (Gen × Value)} {last:Int} (h:KeyRep w g v Z last) (rev:Int) (hf:Fr (fun b=>v.ownBlock=some b) w w') (hs:SlF w' 223 4 genC v' (Z.filter (keptP rev))) (ho:v'.ownBlock=v.ownBlock) :
 KeyRep (w'.setCell ⟨g,0,none⟩ v') g v' (Z.filter (keptP rev)) last:=by
 have hmem:∀ (i:Nat) (p:Gen × Value),(Z.filter (keptP rev))[i]? = some p->∃ j:Nat,Z[j]? = some p:=fun i p hp =>
  List.mem_iff_getElem?.1 (List.mem_filter.1 (List.mem_of_getElem? hp)).1
 have hfs:Fr (fun b=>b=g) w' (w'.setCell ⟨g,0,none⟩ v'):=(Fr.refl _ w').setAt 0 _
 have hpw:(Z.filter (keptP rev)).Pairwise fun p q=>∀ b,p.2.ownBlock=some b->q.2.ownBlock≠some b:=by
  refine List.Pairwise.sublist List.filter_sublist ?_;rw [List.pairwise_iff_getElem];intro i j hi hj hij b hb hb';have:=h.apart2 i j _ _ (List.getElem?_eq_getElem hi) (List.getElem?_eq_getElem hj) b hb hb';omega
 rw [List.pairwise_iff_getElem] at hpw
 exact {
  obj:=(h.obj.fr hf h.own).set 0 v'
  gens:=hs.fr hfs fun b hb e=>h.own (by have e':b=g:=e;rw [<-e',<-ho];exact hb)
  puts:=fun i p hp=>by
   obtain ⟨j,hj⟩:=hmem i p hp;exact ((h.puts j p hj).fr hf fun b hb e=>(h.apart j p hj b hb).2 e).fr hfs fun b hb e=>(h.apart j p hj b hb).1 e
  apart:=fun i p hp b hb=>by
   obtain ⟨j,hj⟩:=hmem i p hp;rw [ho];exact h.apart j p hj b hb
  apart2:=fun i j p q hi hj b hb hb'=>by
   obtain ⟨i1,i2⟩:=List.getElem?_eq_some_iff.1 hi;obtain ⟨j1,j2⟩:=List.getElem?_eq_some_iff.1 hj;rcases Nat.lt_trichotomy i j with e | e | e
   · exact absurd hb' (hpw i j i1 j1 e b (by rw [i2];exact hb) |> fun h=>by rw [j2] at h;exact h)
   · exact e
   exact absurd hb (hpw j i j1 i1 e b (by rw [j2];exact hb') |> fun h=>by rw [i2] at h;exact h)
  own:=by rw [ho];exact h.own }
set_option maxHeartbeats 8000000 in
theorem zgd (w:World) (g:Nat) (K:List Gen) (last rev:Int) (F:Nat->Prop) (h:KeyAt w g K last F) (hK:Fits K) :
 Calls Tryz.prog 102 #[.pointer (some ⟨g,0,none⟩),.int .i64 rev] w fun e w'=>e = .returned (.bool (decide (0 < (compK rev K).length)))/\Fr F w w'/\∃ F',KeyAt w' g (compK rev K) last F'/\∀ b,F' b->F b:=by
 obtain ⟨gv,Z0,hr,rfl,hF⟩:=h;obtain ⟨a0,cap0,rfl,hc10,hc20,ha0⟩:=hr.gens.shape;have hlZ0:Z0.length<=1099511627:=by have:=hK.1;rwa [List.length_map] at this
 have hsh:∀ p∈Z0,∃ a n c,p.2 = .slice a n c:=fun p hp=>by
  obtain ⟨j,hj⟩:=List.mem_iff_getElem?.1 hp;obtain ⟨a,c,h1,_⟩:=(hr.puts j p hj).shape;exact ⟨a,_,c,h1⟩
 have hdel:=fun W rb (hb:W.cell? ⟨rb,0,none⟩=some (.int .i64 rev)) hv hn=>zod W (.slice a0 Z0.length cap0) Z0 rb rev hb hv hn hlZ0 hsh;have HDEL:=H_ hdel
 have hK1:Fits ((Z0.filter (keptP rev)).map (·.1)):=by
  rw [zmf];exact ⟨Nat.le_trans (List.length_filter_le _ _) hK.1,fun x hx=>hK.2 x (List.mem_filter.1 hx).1⟩
 have hsub:∀ p,p∈Z0.filter (keptP rev)->p∈Z0:=fun p hp=>(List.mem_filter.1 hp).1;have hck:compK rev (Z0.map (·.1))=((Z0.filter (keptP rev)).map (·.1)).map (compG rev):=by rw [zmf];rfl
 have hkept:=fun w' v'=>KeyRep.kept (w:=w.alloc (Obj.cells #[.int .i64 rev] 3)) (w':=w') (v':=v') (hr.fr (((Fr.refl No w).alloc (Obj.cells #[.int .i64 rev] 3))) fun _ _ h=>h) rev;rw [hck];have hlZ:(Z0.filter (keptP rev)).length<=1099511627:=Nat.le_trans (List.length_filter_le _ _) hlZ0;have hZ:∃ Z,Z0.filter (keptP rev)=Z:=⟨_,rfl⟩;obtain ⟨Z,hZ⟩:=hZ;rw [hZ] at hK1 hkept hlZ hsub HDEL ⊢
 have hgw:∀ b,(Value.slice a0 Z0.length cap0).ownBlock=some b->b < w.heap.size:=hr.gens.lt;have c0:=hr.obj.cell 0 rfl;have f0:=hr.obj.free 0;have lg:=hr.obj.lt;have HR:=H_ hr;have HF:=H_ hF;have HK:=H_ hK1;have HKEPT:=H_ hkept;have HGW:=H_ hgw;have HSUB:=H_ hsub
 have hc0:(w.alloc (Obj.cells #[.int .i64 rev] 3)).cell? ⟨w.heap.size,0,none⟩=some (.int .i64 rev):=by
  unfold World.cell?;simp only;rw [show (w.alloc (Obj.cells #[.int .i64 rev] 3)).heap[w.heap.size]? = some (.cells #[.int .i64 rev] 3 (0,0)) from zad _ _ _ rfl]
  rfl
 have HC0:=H_ hc0;clear hc0;clear hdel hr hF hK hK1 hkept hgw hsub hsh hck ha0;go_enter Tryz.func102,Tryz.ntmps102
 go_wp2_with (go_at_call 145;refine (HDEL.out _ w.heap.size HC0.out (HR.out.gens.alloc _) (fun e=>by have:=HGW.out _ e;omega)).mono ?_;rintro e w1 ⟨v1,rfl,hs1,hf1,ho1⟩
              obtain ⟨a,cap,rfl,hc1,hc2,ha⟩:=hs1.shape;have hbx1:=hf1.heap (zad w (Obj.cells #[.int .i64 rev] 3) _ rfl) (fun e=>by have:=HGW.out _ e;omega);have hfw1:Fr F w w1:=(((Fr.refl No w).alloc _).mono fun _ _ h=>h.elim).trans hf1 fun b hb e=>(HF.out b).2 (.inr (.inl e));have hown:¬ (Value.slice a0 Z0.length cap0).ownBlock=some g:=HR.out.own;have c01:=hf1.cell (((Fr.refl No w).alloc (Obj.cells #[.int .i64 rev] 3)).cell0 c0) hown;have f01:=hf1.free (((Fr.refl No w).alloc (Obj.cells #[.int .i64 rev] 3)).cell0 c0) (((Fr.refl No w).alloc (Obj.cells #[.int .i64 rev] 3)).free0 c0 f0) hown;have lg1:g < w1.heap.size:=Nat.lt_of_lt_of_le lg hfw1.size;have HA:=H_ ha;have HS1:=H_ hs1;have HO1:=H_ ho1;have HFW1:=H_ hfw1;have HF1:=H_ hf1;clear ha hs1 ho1 hfw1 hf1 hown)
 have hr2:KeyRep (w1.setCell ⟨g,0,none⟩ (.slice a Z.length cap)) g (.slice a Z.length cap) Z last:=HKEPT.out _ _ HF1.out HS1.out HO1.out;have hfs:Fr (fun b=>b=g) w1 (w1.setCell ⟨g,0,none⟩ (.slice a Z.length cap)):=(Fr.refl _ w1).setAt 0 _;have hbx2:=hfs.heap hbx1 (fun e=>by have e':w.heap.size=g:=e;omega);have c02:(w1.setCell ⟨g,0,none⟩ (.slice a Z.length cap)).cell? ⟨g,0,none⟩=some (.slice a Z.length cap):=hr2.obj.cell 0 rfl;have hFg:F g:=(HF.out g).2 (.inl rfl);have hfw2:Fr F w (w1.setCell ⟨g,0,none⟩ (.slice a Z.length cap)):=HFW1.out.trans hfs fun b _ e=>by have e':b=g:=e;rw [e'];exact hFg
 have HR2:=H_ hr2;have HBX:=H_ hbx2;have HFW:=H_ hfw2;have hsz2:=hfs.size;generalize w1.setCell ⟨g,0,none⟩ (.slice a Z.length cap)=W2 at *;have lg2:g < W2.heap.size:=by omega
 clear hr2 hbx1 hbx2 hfw2 hfs f0 f01 c0 c01
 go_loopg [24] Z.length (fun gg s24 wr=>∃ (i:Nat) (Z':List (Gen × Value)),s24 = .int .i64 i/\i+gg=Z.length/\Z'.length=Z.length/\Hid (Z'.map (·.1)=((Z.map (·.1)).take i).map (compG rev)++(Z.map (·.1)).drop i)/\Hid (Z'.map (·.2.ownBlock)=Z.map (·.2.ownBlock)) ∧
  Hid (KeyRep wr g (.slice a Z.length cap) Z' last)/\Hid (Fr F w wr)/\Hid (wr.heap[w.heap.size]? = some (.cells #[.int .i64 rev] 3 (0,0))))
 case atStart=>exact ⟨0,Z,rfl,by simp,rfl,H_ (by simp),H_ rfl,HR2,HFW,HBX⟩
 case round =>
  obtain ⟨i,Z',rfl,hi,hlz,HM,HO,HRR,HFF,HB⟩:=hrel
  cases gk with
  | zero =>
    have hil:¬ (i:Int) < (Z.length:Int):=(by omega);have d0:=HRR.out.obj.cell 0 rfl;have ld:=HRR.out.obj.lt;have hdd:decide (0 < ((Z.map (·.1)).map (compG rev)).length)=decide ((0:Int) < (Z.length:Int)):=(by rw [List.length_map,List.length_map,decide_eq_decide];omega);have HDD:=H_ hdd;clear hdd;go_wp2;go_ret;refine ⟨by first | rfl | (rw [HDD.out];rfl) | simp,HFF.out,keyF g (.slice a Z.length cap) Z',⟨_,Z',HRR.out,?_,fun b=>Iff.rfl⟩,fun b hb=>?_⟩
    · rw [HM.out,List.take_of_length_le (by simp;omega),List.drop_eq_nil_of_le (by simp;omega),List.append_nil]
      try simp
    refine (HF.out b).2 ?_
    rcases (zqp HO.out b).1 hb with h | h | ⟨j,p,hp,h⟩
    · exact .inl h
    · exact .inr (.inl (by rw [<-HO1.out];exact h))
    obtain ⟨i',hi'⟩:=List.mem_iff_getElem?.1 (HSUB.out p (List.mem_of_getElem? hp))
    exact .inr (.inr ⟨i',p,hi',h⟩)
  | succ gg =>
    obtain ⟨gb,go,rfl⟩:=HA.out (by omega);obtain ⟨⟨x,pv⟩,hx⟩:∃ p,Z'[i]? = some p:=⟨_,List.getElem?_eq_getElem (by omega)⟩;have hil:(i:Int) < (Z.length:Int):=(by omega);have hrr:KeyRep wr g (.slice (some ⟨gb,go,none⟩) Z'.length cap) Z' last:=(by rw [hlz];exact HRR.out)
    have hxK:(Z.map (·.1))[i]? = some x:=by
     have:=congrArg (fun l=>l[i]?) HM.out;simp only [List.getElem?_map,hx,Option.map_some] at this;rw [List.getElem?_append_right (by simp;omega)] at this;simp only [List.length_map,List.length_take,List.getElem?_drop] at this;rw [Nat.min_eq_left (by omega),show i+(i - i)=i by omega] at this;exact this.symm
    have hfx:=HK.out.2 x (List.mem_of_getElem? hxK);have hps:=hrr.puts i _ hx;have y0:=hrr.gens.cell0 zal i hx rfl;have y1:=hrr.gens.cell zal i 1 hx rfl;have y2:=hrr.gens.cell zal i 2 hx rfl;have y3:=hrr.gens.cell zal i 3 hx rfl;have d0:=HRR.out.obj.cell 0 rfl;have ld:=HRR.out.obj.lt;have lgb:=hrr.gens.lt gb rfl;have hfz:∀ j,wr.frozen? ⟨gb,j,none⟩=false:=fun j=>hrr.gens.free j;have rb0:wr.cell? ⟨w.heap.size,0,none⟩=some (.int .i64 rev):=(by simp [World.cell?,HB.out]);have lrb:=zac HB.out;have hup:=fun W (h:Fr No wr W)=>zjj W x pv rev (hps.fr0 h) (by have:=hfx.1;omega);have hule:=zdp x.puts rev;have hcg:compG rev x=if 1 < upTo x.puts rev then { x with cut:=x.cut+((upTo x.puts rev:Int) - 1),puts:=x.puts.drop (upTo x.puts rev - 1) } else x:=rfl;have HUP:=H_ hup;have HX:=H_ hx;have HXK:=H_ hxK
    have HRI:=H_ hrr;have HPS:=H_ hps;have HCG:=H_ hcg;clear hup hx hxK hrr hps hcg;generalize hn:upTo x.puts rev=n at *;obtain ⟨x1,x2,x3,x4⟩:=x;dsimp only at *;by_cases hn1:1 < n
    · have hn1':(1:Int) < (n:Int):=by omega
      rw [if_pos hn1] at HCG;obtain ⟨pa,pc,rfl,hp1,hp2,hp3⟩:=HPS.out.shape
      (try dsimp only at hp1 hp3)
      obtain ⟨pb,po,rfl⟩:=hp3 (by omega);go_upto_region 8 with fail
      go_cut [7] (fun s7 wx=>s7 = .int .i64 n/\Hid (Fr No wr wx))
      case first =>
       go_region_held3 (fun W=>W.cell? ⟨gb,go+i * 4,none⟩=some (.int .i64 x1)/\W.cell? ⟨gb,go+i * 4+1,none⟩=some (.int .i64 x2)/\W.cell? ⟨gb,go+i * 4+2,none⟩=some (.slice (some ⟨pb,po,none⟩) x3.length pc) ∧
        W.cell? ⟨gb,go+i * 4+3,none⟩=some (.int .i64 x4)/\W.cell? ⟨w.heap.size,0,none⟩=some (.int .i64 rev))
        (first | exact ⟨y0,y1,y2,y3,rb0⟩ | exact ⟨hf3.cell0 y0,hf3.cell0 y1,hf3.cell0 y2,hf3.cell0 y3,hf3.cell0 rb0⟩)
        (first | (go_at_call 147;refine (HUP.out _ (by (repeat (first | with_reducible exact Fr.refl _ _ | with_reducible refine Fr.drew ?_));done)).mono ?_;rintro e w3 ⟨rfl,hf3⟩))
       all_goals
        go_wp2;go_meet
        case rel=>exact ⟨rfl,H_ (Fr.trans0 (by (repeat (first | with_reducible exact Fr.refl _ _ | with_reducible refine Fr.drew ?_));done) hf3)⟩
      case rest =>
       obtain ⟨rfl,HX3⟩:=hcut;have z1:=HX3.out.cell0 y1;have z2:=HX3.out.cell0 y2;have fz:=fun j=>(HRI.out.fr HX3.out fun _ _ h=>h).gens.free j;have lgc:gb < wc.heap.size:=Nat.lt_of_lt_of_le lgb HX3.out.size;clear y0 y1 y2 y3 rb0 hfz;obtain ⟨m,rfl⟩:∃ m,n=m+1:=⟨n - 1,by omega⟩;have hm0:0 < m:=(by omega);have hx2a:=hfx.2.1;have hx2b:=hfx.2.2;have hx3:=hfx.1;have hml:(m:Int)<=(x3.length:Int):=(by omega);have hml2:m<=x3.length:=(by omega);have hlc:(x3.length:Int)<=(pc:Int):=(by omega);have hne:¬ x3.length=m:=(by omega);have hlt3:m < x3.length:=(by omega)
       have hset:=KeyRep.setGen (HRI.out.fr HX3.out fun _ _ h=>h) i HX.out ⟨x1,x2+m,x3.drop m,x4⟩ (.slice (some ⟨pb,po+m,none⟩) (x3.length - m) (x3.length - m)) rfl rfl rfl
        (by have:=SlF.cut3 zdx (HPS.out.fr0 HX3.out) m hlt3;simpa using this)
       have hcg2:compG rev ⟨x1,x2,x3,x4⟩=⟨x1,x2+m,x3.drop m,x4⟩:=by
        rw [HCG.out,show ((m+1:Nat):Int) - 1=(m:Int) by omega]
        rfl
       have HSET:=H_ hset;have HCG2:=H_ hcg2;have hgbw:gb < w.heap.size:=HGW.out gb (by rw [<-HO1.out];rfl);clear hn hfx hule hm0 hset hcg2;go_upto_region 11 with fail
       go_region
       go_wp2;go_roundg gg
       case rel =>
        obtain ⟨hk,hf⟩:=HSET.out;rw [hlz] at hk;refine ⟨i+1,_,by go_num,by omega,by rw [List.length_set];exact hlz,H_ ?_,H_ ?_,H_ (hk.fr (Fr.refl No _).drew fun _ _ h=>h),H_ ?_,H_ ?_⟩
        · rw [List.map_set,HM.out]
          exact zss HXK.out HCG2.out
        · rw [List.map_set,<-HO.out]
          refine zuc ?_;rw [List.getElem?_map,HX.out]
          rfl
        · refine ((HFF.out.trans0 HX3.out).trans hf fun b _ e=>?_).drew
          have e':b=gb:=e;rw [e'];exact (HF.out gb).2 (.inr (.inl (by rw [<-HO1.out];rfl)))
        exact (hf.drew).heap (HX3.out.heap HB.out id) (fun e=>by have e':w.heap.size=gb:=e;omega)
       case measure=>omega
    have hn1':¬ (1:Int) < (n:Int):=by omega
    rw [if_neg hn1] at HCG;obtain ⟨pa,pc,rfl,hp1,hp2,hp3⟩:=HPS.out.shape
    (try dsimp only at hp1 hp3)
    go_upto_region 8 with fail
    go_cut [7] (fun s7 wx=>s7 = .int .i64 n/\Hid (Fr No wr wx))
    case first =>
     go_region_held3 (fun W=>W.cell? ⟨gb,go+i * 4,none⟩=some (.int .i64 x1)/\W.cell? ⟨gb,go+i * 4+1,none⟩=some (.int .i64 x2)/\W.cell? ⟨gb,go+i * 4+2,none⟩=some (.slice pa x3.length pc) ∧
      W.cell? ⟨gb,go+i * 4+3,none⟩=some (.int .i64 x4)/\W.cell? ⟨w.heap.size,0,none⟩=some (.int .i64 rev))
      (first | exact ⟨y0,y1,y2,y3,rb0⟩ | exact ⟨hf3.cell0 y0,hf3.cell0 y1,hf3.cell0 y2,hf3.cell0 y3,hf3.cell0 rb0⟩)
      (first | (go_at_call 147;refine (HUP.out _ (by (repeat (first | with_reducible exact Fr.refl _ _ | with_reducible refine Fr.drew ?_));done)).mono ?_;rintro e w3 ⟨rfl,hf3⟩))
     all_goals
      go_wp2;go_meet
      case rel=>exact ⟨rfl,H_ (Fr.trans0 (by (repeat (first | with_reducible exact Fr.refl _ _ | with_reducible refine Fr.drew ?_));done) hf3)⟩
    case rest =>
     obtain ⟨rfl,HX3⟩:=hcut;go_wp2;go_roundg gg
     case rel=>exact ⟨i+1,Z',by go_num,by omega,hlz,H_ (by rw [HM.out];exact zun HXK.out HCG.out),HO,H_ (HRR.out.fr HX3.out fun _ _ h=>h),H_ (HFF.out.trans0 HX3.out),H_ (HX3.out.heap HB.out id)⟩
     case measure=>omega
structure HOrd (K:List Gen):Prop where
 ends:K.Pairwise fun a b=>0 < a.end_/\(b.end_=0\/a.end_<=b.end_)
 puts:∀ x∈K,x.puts.Pairwise (· < ·)
theorem HOrd.put {K:List Gen} (h:HOrd K) {R:Int} (hM:∀ x∈K,∀ p∈x.puts,p < R) (he:∀ x∈K,0<=x.end_):HOrd (putK K R):=by
 unfold putK
 split
 · rename_i ho
   obtain ⟨L,x,rfl,hx⟩:=zcl ho;rw [zbw];obtain ⟨a,b,c⟩:=List.pairwise_append.1 h.ends;refine ⟨List.pairwise_append.2 ⟨a,by simp,fun y hy z hz=>?_⟩,fun y hy=>?_⟩
   · rw [List.mem_singleton.1 hz]
     exact c y hy x (by simp)
   rcases List.mem_append.1 hy with e | e
   · exact h.puts y (List.mem_append_left _ e)
   rw [List.mem_singleton.1 e]
   refine List.pairwise_append.2 ⟨h.puts x (by simp),by simp,fun p hp q hq=>?_⟩;rw [List.mem_singleton.1 hq];exact hM x (by simp) p hp
 rename_i ho
 have hall:∀ y∈K,0 < y.end_:=by
  rcases List.eq_nil_or_concat K with rfl | ⟨L,x,rfl⟩
  · simp
  simp only [List.concat_eq_append] at *
  obtain ⟨a,b,c⟩:=List.pairwise_append.1 h.ends;intro y hy;rcases List.mem_append.1 hy with e | e
  · exact (c y e x (by simp)).1
  rw [List.mem_singleton.1 e]
  have h0:x.end_≠0:=fun h0=>ho (by unfold isOpen;simp [h0]);have:=he x (by simp);omega
 refine ⟨List.pairwise_append.2 ⟨h.ends,by simp,fun y hy z hz=>?_⟩,fun y hy=>?_⟩
 · rw [List.mem_singleton.1 hz]
   exact ⟨hall y hy,.inl rfl⟩
 rcases List.mem_append.1 hy with e | e
 · exact h.puts y e
 rw [List.mem_singleton.1 e];simp
theorem HOrd.tomb {K:List Gen} (h:HOrd K) (ho:isOpen K=true) {R:Int} (hM:∀ x∈K,x.end_ < R):HOrd (tombK K R):=by
 obtain ⟨L,x,rfl,hx⟩:=zcl ho;unfold tombK;rw [zbw];obtain ⟨a,b,c⟩:=List.pairwise_append.1 h.ends;refine ⟨List.pairwise_append.2 ⟨a,by simp,fun y hy z hz=>?_⟩,fun y hy=>?_⟩
 · rw [List.mem_singleton.1 hz]
   have:=hM y (List.mem_append_left _ hy);exact ⟨(c y hy x (by simp)).1,.inr (by dsimp only;omega)⟩
 rcases List.mem_append.1 hy with e | e
 · exact h.puts y (List.mem_append_left _ e)
 rw [List.mem_singleton.1 e]
 exact h.puts x (by simp)
theorem zro {l:List Int} {R:Int} {j:Nat} (hj:j < upTo l R) (hl:j < l.length):l[j]<=R:=by
 unfold upTo at hj;have:=List.not_of_lt_findIdx hj;simpa using this
theorem zrp {l:List Int} {r:Int} {k:Nat} (hk:k<=l.length) (h:∀ j (hj:j < l.length),j < k->l[j]<=r):k<=upTo l r:=by
 unfold upTo;rcases Nat.lt_or_ge (l.findIdx fun p=>decide (r < p)) k with hc | hc
 · have hl:(l.findIdx fun p=>decide (r < p)) < l.length:=by omega
   have h1:=List.findIdx_getElem (w:=hl);have h2:=h _ hl hc;simp only [decide_eq_true_eq] at h1;omega
 exact hc
theorem zld (l:List Int) {R r:Int} (h:R<=r):upTo l R<=upTo l r :=
 zrp (zdp l R) fun _j hj hk=>Int.le_trans (zro hk hj) h
theorem zrq {l:List Int} {R r:Int} {k:Nat} (hk:k<=upTo l R) (h:R<=r):upTo (l.drop k) r=upTo l r - k:=by
 have hkl:k<=l.length:=Nat.le_trans hk (zdp l R)
 have ht:(l.take k).findIdx (fun p=>decide (r < p))=k:=by
  have:(l.take k).findIdx (fun p=>decide (r < p))=(l.take k).length:=by
   refine List.findIdx_eq_length_of_false fun p hp=>?_;obtain ⟨j,hj⟩:=List.mem_iff_getElem?.1 hp;have hjl:=(List.getElem?_eq_some_iff.1 hj).1;rw [List.length_take] at hjl;rw [List.getElem?_take_of_lt (by omega)] at hj;have h1:=zro (l:=l) (R:=R) (j:=j) (by omega) (by omega);rw [(List.getElem?_eq_some_iff.1 hj).2] at h1;simp;omega
  rw [this];simp;omega
 have h2:upTo l r=k+upTo (l.drop k) r:=by
  conv=>lhs;rw [<-List.take_append_drop k l]
  unfold upTo;rw [List.findIdx_append,ht];have:(l.take k).length=k:=(by simp;omega);rw [this,if_neg (by omega)];omega
 omega
theorem ztm {K:List Gen} {r:Int} (h:∀ y∈K,0 < y.end_/\y.end_<=r):atK K r=((0,0,0),false):=by
 unfold atK
 split
 · rfl
 rename_i x hx
 have hm:=List.mem_reverse.1 (List.mem_of_find?_eq_some hx);have:=h x hm;rw [if_pos ⟨this.1,this.2⟩]
theorem zew (R:Int) (x:Gen):(compG R x).end_=x.end_/\(compG R x).create=x.create:=by
 unfold compG
 split <;> exact ⟨rfl,rfl⟩
theorem zqy (R:Int) (K:List Gen) (x:Gen):compK R (K++[x])=compK R K++if endB R x then [] else [compG R x]:=by
 unfold compK;rw [List.filter_append,List.map_append]
 congr 1
 cases h:endB R x <;> simp [h]
theorem zkr {K:List Gen} (h:HOrd K) {R r:Int} (hr:R<=r):atK (compK R K) r=atK K r:=by
 have key:∀ n (K:List Gen),K.length=n->HOrd K->atK (compK R K) r=atK K r:=by
  intro n
  induction n with
  | zero =>
    intro K hn _;rw [List.eq_nil_of_length_eq_zero hn]
    rfl
  | succ n ih =>
    intro K hn h;rcases List.eq_nil_or_concat K with rfl | ⟨L,x,rfl⟩
    · simp at hn
    simp only [List.concat_eq_append] at *
    obtain ⟨a,b,c⟩:=List.pairwise_append.1 h.ends;have hL:HOrd L:=⟨a,fun y hy=>h.puts y (List.mem_append_left _ hy)⟩;have ihL:=ih L (by simp at hn;omega) hL;rw [zqy,zby]
    cases he:endB R x with
    | true =>
      simp only [if_true,List.append_nil];rw [ihL];unfold endB at he;simp only [Bool.and_eq_true,decide_eq_true_eq] at he
      have hnone:atK L r=((0,0,0),false):=ztm fun y hy=>by
       have:=c y hy x (by simp);omega
      rw [hnone,if_pos (show 0 < x.end_/\x.end_<=r by omega)]
      split <;> rfl
    | false =>
      simp only [Bool.false_eq_true,if_false];rw [zby,(zew R x).1,(zew R x).2,ihL];unfold compG;by_cases hn1:1 < upTo x.puts R
      · rw [if_pos hn1]
        dsimp only;have hle:=zld x.puts hr;have hul:=zdp x.puts r;have hd:=zrq (l:=x.puts) (R:=R) (r:=r) (k:=upTo x.puts R - 1) (by omega) hr;rw [hd,if_pos (show upTo x.puts r - (upTo x.puts R - 1)≠0 by omega),if_pos (show upTo x.puts r≠0 by omega),List.getElem?_drop];have e1:upTo x.puts R - 1+(upTo x.puts r - (upTo x.puts R - 1) - 1)=upTo x.puts r - 1:=(by omega);have e2:x.cut+((upTo x.puts R:Int) - 1)+((upTo x.puts r - (upTo x.puts R - 1):Nat):Int)=x.cut+(upTo x.puts r:Int):=(by omega);rw [e1,e2]
      rw [if_neg hn1]
 exact key K.length K rfl h
theorem zvj {K:List Gen} (h:HOrd K) {R r:Int} (hr:R<=r) (hm:(atK K r).1.2.1<=R):(atK K r).1.2.1=(atK K R).1.2.1\/(atK K r).1.2.1=0:=by
 have key:∀ n (K:List Gen),K.length=n->HOrd K->(atK K r).1.2.1<=R->(atK K r).1.2.1=(atK K R).1.2.1\/(atK K r).1.2.1=0:=by
  intro n
  induction n with
  | zero =>
    intro K hn _ _;rw [List.eq_nil_of_length_eq_zero hn];exact .inr rfl
  | succ n ih =>
    intro K hn h hm;rcases List.eq_nil_or_concat K with rfl | ⟨L,x,rfl⟩
    · simp at hn
    simp only [List.concat_eq_append] at *
    obtain ⟨a,b,c⟩:=List.pairwise_append.1 h.ends;have hL:HOrd L:=⟨a,fun y hy=>h.puts y (List.mem_append_left _ hy)⟩;rw [zby] at hm ⊢
    rw [zby];have hmono:=zld x.puts hr;by_cases hu:upTo x.puts r≠0
    · rw [if_pos hu] at hm ⊢
      by_cases he:0 < x.end_/\x.end_<=r
      · rw [if_pos he];exact .inr rfl
      rw [if_neg he] at hm ⊢
      dsimp only at hm ⊢
      have hul:=zdp x.puts r;have hlt:upTo x.puts r - 1 < x.puts.length:=(by omega);rw [List.getElem?_eq_getElem hlt,Option.getD_some] at hm
      have hge:upTo x.puts r<=upTo x.puts R:=zrp hul fun j hj hk=>by
       rcases Nat.lt_or_ge j (upTo x.puts r - 1) with e | e
       · have:=List.pairwise_iff_getElem.1 (h.puts x (by simp)) j (upTo x.puts r - 1) hj hlt e
         omega
       have:j=upTo x.puts r - 1:=by omega
       subst this;exact hm
      have he2:upTo x.puts R=upTo x.puts r:=(by omega);rw [he2,if_pos hu,if_neg (by omega)];exact .inl rfl
    rw [if_neg hu] at hm ⊢
    rw [if_neg (by omega)];exact ih L (by simp at hn;omega) hL hm
 exact key K.length K rfl h hm
def compH (R:Int) (H:Hist):Hist:={ gens:=compK R H.gens,last:=H.last,kvs:=fun r=>if r<=R/\r≠(atK (compK R H.gens) R).1.2.1 then none else H.kvs r }
theorem ztc {M:Int} {H:Hist} (hI:HInv M H) (h:HOrd H.gens) {R r:Int} (hr:R<=r):hadH (compH R H) r=hadH H r:=by
 unfold hadH compH;dsimp only;rw [zkr h hr,zkr h (Int.le_refl R)];by_cases hm:(atK H.gens r).1.2.1<=R
 · rcases zvj h hr hm with e | e
   · rw [if_neg fun c=>c.2 e]
   rw [e]
   split
   · rw [hI.zero]
   rfl
 rw [if_neg fun c=>hm c.1]
theorem ztb {H:Hist} (h:HOrd H.gens) {R r:Int} (hr:R<=r) (hM:H.kvs 0=none) (hn:compK R H.gens = []):hadH H r=(kv0,false):=by
 unfold hadH;rw [<-zkr h hr,hn];dsimp only [zwf];rw [hM]
 rfl
theorem zdn {R:Int} {K:List Gen} {y:Gen} (hy:y∈compK R K):∃ x∈K,y=compG R x:=by
 unfold compK at hy;obtain ⟨x,hx,rfl⟩:=List.mem_map.1 hy;exact ⟨x,(List.mem_filter.1 hx).1,rfl⟩
theorem zdo (R:Int) (x:Gen):∃ k,(compG R x).puts=x.puts.drop k/\(compG R x).cut=x.cut+(k:Int)/\k<=x.puts.length/\(x.puts≠[]->k < x.puts.length):=by
 have hl:=zdp x.puts R;unfold compG
 split
 · exact ⟨upTo x.puts R - 1,rfl,by dsimp only;omega,by omega,fun _=>by omega⟩
 exact ⟨0,rfl,by simp,by omega,fun h=>List.length_pos_iff.2 h⟩
theorem HInv.comp {M:Int} {H:Hist} (h:HInv M H) (R:Int):HInv M (compH R H):=by
 refine ⟨fun y hy p hp=>?_,fun y hy=>?_,fun y hy=>?_,?_⟩
 · obtain ⟨x,hx,rfl⟩:=zdn hy
   obtain ⟨k,hk,_⟩:=zdo R x;rw [hk] at hp;exact h.puts x hx p (List.mem_of_mem_drop hp)
 · obtain ⟨x,hx,rfl⟩:=zdn hy
   rw [(zew R x).1];exact h.ends x hx
 · obtain ⟨x,hx,rfl⟩:=zdn hy
   obtain ⟨k,hk,_,_,hk2⟩:=zdo R x;have:=hk2 (h.full x hx);rw [hk];exact fun e=>by have:=congrArg List.length e;simp at this;omega
 show (if _ then none else H.kvs 0)=none
 split
 · rfl
 exact h.zero
theorem HOrd.comp {K:List Gen} (h:HOrd K) (R:Int):HOrd (compK R K):=by
 refine ⟨?_,fun y hy=>?_⟩
 · unfold compK
   rw [List.pairwise_map];refine List.Pairwise.imp (fun {a b} hab=>?_) (List.Pairwise.sublist List.filter_sublist h.ends);rw [(zew R a).1,(zew R b).1];exact hab
 obtain ⟨x,hx,rfl⟩:=zdn hy
 obtain ⟨k,hk,_⟩:=zdo R x;rw [hk];exact List.Pairwise.sublist (List.drop_sublist _ _) (h.puts x hx)
structure HMore (n:Nat) (H:Hist):Prop where
 ord:HOrd H.gens
 fin:∃ l:List Int,l.length<=n/\∀ r,H.kvs r≠none->r∈l
 cut:∀ x∈H.gens,0<=x.cut/\x.cut+x.puts.length<=n
theorem HMore.mono {n m:Nat} {H:Hist} (h:HMore n H) (hm:n<=m):HMore m H :=
 ⟨h.ord,by obtain ⟨l,a,b⟩:=h.fin;exact ⟨l,by omega,b⟩,fun x hx=>by have:=h.cut x hx;omega⟩
theorem HMore.new (n:Nat):HMore n newH:=⟨⟨List.Pairwise.nil,fun x hx=>by simp [newH] at hx⟩,⟨[],by simp,fun r hr=>absurd rfl hr⟩,fun x hx=>by simp [newH] at hx⟩
theorem HMore.put {n:Nat} {M:Int} {H:Hist} (h:HMore n H) (hI:HInv M H) (x:Kv) (hM:M < x.mod):HMore (n+1) (putH H x):=by
 refine ⟨h.ord.put (fun y hy p hp=>by have:=(hI.puts y hy p hp).2;omega) fun y hy=>(hI.ends y hy).1,?_,fun y hy=>?_⟩
 · obtain ⟨l,a,b⟩:=h.fin
   refine ⟨x.mod :: l,by simp;omega,fun r hr=>?_⟩;by_cases e:r=x.mod
   · rw [e];simp
   unfold putH at hr
   dsimp only at hr;rw [if_neg e] at hr;exact List.mem_cons_of_mem _ (b r hr)
 unfold putH putK at hy
 dsimp only at hy
 split at hy
 · obtain ⟨z,hz,e | e⟩:=zdv hy
   · rw [e];have:=h.cut z hz;omega
   rw [e]
   have:=h.cut z hz;dsimp only;simp only [List.length_append,List.length_singleton];omega
 rcases List.mem_append.1 hy with e | e
 · have:=h.cut y e;omega
 rw [List.mem_singleton.1 e]
 simp;omega
theorem HMore.tomb {n:Nat} {M:Int} {H:Hist} (h:HMore n H) (hI:HInv M H) (ho:isOpen H.gens=true) {R:Int} (hM:M < R):HMore n (tombH H R):=by
 refine ⟨h.ord.tomb ho fun y hy=>by have:=(hI.ends y hy).2;omega,h.fin,fun y hy=>?_⟩;unfold tombH tombK at hy;dsimp only at hy;obtain ⟨z,hz,e | e⟩:=zdv hy
 · rw [e];exact h.cut z hz
 rw [e];exact h.cut z hz
theorem HMore.comp {n:Nat} {H:Hist} (h:HMore n H) (R:Int):HMore n (compH R H):=by
 refine ⟨h.ord.comp R,?_,fun y hy=>?_⟩
 · obtain ⟨l,a,b⟩:=h.fin
   refine ⟨l,a,fun r hr=>b r ?_⟩;unfold compH at hr;dsimp only at hr
   split at hr
   · exact absurd rfl hr
   exact hr
 obtain ⟨x,hx,rfl⟩:=zdn hy
 obtain ⟨k,hk,hc,hk1,_⟩:=zdo R x;have:=h.cut x hx;rw [hk,hc,List.length_drop];omega
theorem HistOk.comp {n:Nat} {H:Hist} (h:HistOk n H) (hm:HMore n H) (hn:n<=1099511627) (R:Int):HistOk n (compH R H):=by
 refine ⟨?_,fun y hy=>?_⟩
 · show (compK R H.gens).length<=n
   unfold compK;rw [List.length_map];exact Nat.le_trans (List.length_filter_le _ _) h.len
 obtain ⟨x,hx,rfl⟩:=zdn hy
 obtain ⟨k,hk,hc,hk1,_⟩:=zdo R x;have h1:=h.puts x hx;have h2:=hm.cut x hx;rw [hk,hc,List.length_drop];unfold top;exact ⟨by omega,by omega,by omega,fun p hp=>h1.2.2.2 p (List.mem_of_mem_drop hp)⟩
def SMore (n:Nat) (S:St):Prop:=∀ i H,S.past i=some H->HMore n H
theorem SMore.mono {n m:Nat} {S:St} (h:SMore n S) (hm:n<=m):SMore m S:=fun i H hi=>(h i H hi).mono hm
theorem SMore.doS {n:Nat} {M:Int} {S:St} (h:SMore n S) (hI:SInv M S) (hM0:0<=M) (x:Ev) (h1:1<=x.kv.mod) (hlast:(getT S.T x.kv.key).2=true->∀ H,S.past (getT S.T x.kv.key).1=some H->H.last < x.kv.mod)
 (hdel:x.kind≠1->(getT S.T x.kv.key).2=true/\∀ H,S.past (getT S.T x.kv.key).1=some H->isOpen H.gens=true):SMore (n+1) (doS S x):=by
 intro i H' hi;change (doneS S x).past i=some H' at hi;unfold doneS at hi;by_cases hk:x.kind=1
 · rw [if_pos hk] at hi
   unfold putS at hi;dsimp only at hi;obtain ⟨a,b,c,d⟩:=hI.made hM0 x.kv.key
   have hmade:∀ j G,(madeS S x.kv.key).past j=some G->(HMore n G/\HInv G.last G):=fun j G hj=>by
    refine ⟨?_,(a.hist j G hj).1.1⟩;unfold madeS at hj
    split at hj
    · exact h j G hj
    dsimp only at hj
    split at hj
    · rw [<-Option.some.inj hj];exact HMore.new n
    exact h j G hj
   split at hi
   · rw [<-Option.some.inj hi]
     obtain ⟨G,hG⟩:=a.has _ b;rw [c] at hG
     have hl:G.last < x.kv.mod:=by
      unfold madeS idS at hG
      cases hg:(getT S.T x.kv.key).2 with
      | true=>rw [hg,if_pos rfl,if_pos rfl] at hG;exact hlast hg G hG
      | false =>
        simp only [hg,Bool.false_eq_true,if_false,if_true] at hG;rw [<-Option.some.inj hG]
        show (0:Int) < x.kv.mod
        omega
     rw [hG,Option.getD_some];exact (hmade _ _ hG).1.put (hmade _ _ hG).2 x.kv hl
   exact (hmade i H' hi).1.mono (by omega)
 rw [if_neg hk] at hi
 obtain ⟨e1,e2⟩:=hdel hk;unfold tombS at hi;rw [if_pos e1] at hi;dsimp only at hi
 split at hi
 · obtain ⟨G,hG⟩:=hI.has _ e1
   rw [hG,Option.map_some] at hi;rw [<-Option.some.inj hi];exact ((h _ G hG).tomb (hI.hist _ _ hG).1.1 (e2 G hG) (hlast e1 G hG)).mono (by omega)
 exact (h i H' hi).mono (by omega)
end Go.Proofs.YthljnnjpmdgkoaaGreat