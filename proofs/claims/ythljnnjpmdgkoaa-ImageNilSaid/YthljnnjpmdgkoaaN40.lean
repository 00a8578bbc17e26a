/- Own lemmas and contracts that the claim's proof needs, laid together. The conditions stand in each. -/
import Derived.Test.YthljnnjpmdgkoaaN33
import Derived.Test.YthljnnjpmdgkoaaN34
import Derived.Test.YthljnnjpmdgkoaaN39
import Derived.Test.YthljnnjpmdgkoaaN30
import Derived.Test.YthljnnjpmdgkoaaN31
import Derived.Test.YthljnnjpmdgkoaaN16
import Derived.Test.YthljnnjpmdgkoaaN22
import Derived.Test.YthljnnjpmdgkoaaN38
import Derived.Test.YthljnnjpmdgkoaaN23
import Derived.Test.YthljnnjpmdgkoaaN24
import Derived.Lib.RuneCountTail
import Derived.Laws.Runes
import Derived.PlainAid
import Derived.Deep.DeepCutAuto
import Derived.Deep.CutBlock
import Derived.Deep.RegionHeld3
namespace Go.Proofs.Ythljnnjpmdgkoaa
open Go Go.Proofs Go.RowKit
set_option maxRecDepth 100000
open Classical in
def LoadR (TA:zan) (b:List UInt8) (s:Rd) (D:Doc) (w:World) (e:Ending) (w':World):Prop :=
 if s.2=true then e = .returned (.tuple #[.pointer none,.int .i64 10])/\Fr No w w'
 else if s.1≠[] then e = .returned (.tuple #[.pointer none,.int .i64 12])/\Fr No w w'
 else if zar D/\stB D.rev D.mark D.kvs D.events=b then ∃ a S F,e = .returned (.tuple #[.pointer (some ⟨a,0,none⟩),.int .i64 0])/\zaj TA w' a S F/\MadeOk D S/\(∀ b,F b->w.heap.size<=b)/\Fr No w w'
 else e = .returned (.tuple #[.pointer none,.int .i64 11])/\Fr No w w'
set_option maxHeartbeats 4000000 in
theorem zfr {TA:zan} (hT:TreeOk TA 1000000) (w:World) (b:List UInt8) (hb:b.length<=1099511627776) (g k:Nat) (s:Rd) (D:Doc) (hg:g<=10000000000) (hk:k<=10000000000) (hst:StW rdW g k (b,false) 0 0 [] [] s D.rev D.mark D.kvs D.events)
 (hok:s.2=false->s.1 = []->DocN64 D/\(D.mark<=D.rev->D.rev<=1099511627776->D.mark<=1099510000000)/\(stB D.rev D.mark D.kvs D.events).length<=140737488355328) :
 Calls Try.prog 24 #[.string ⟨b.toArray⟩] w (LoadR TA b s D w):=by
 have hmf:∀ (fn:Fn) (first cap:Array Value) (w:World),(Instr.makeFunc fn first cap).run Try.prog w = .ok (.func fn first cap) w:=fun _ _ _ _=>rfl;have hL:=zae (zae (zac w (Obj.cells #[.string ⟨b.toArray⟩] 9) _ rfl) (Obj.cells #[.nilFunc,.nilFunc,.bool false] 106)) (Obj.cells #[.pointer (some ⟨w.heap.size+1,0,none⟩)] 102);have hC:=zae (zac (w.alloc (Obj.cells #[.string ⟨b.toArray⟩] 9)) (Obj.cells #[.nilFunc,.nilFunc,.bool false] 106) (w.heap.size+1) (by simp)) (Obj.cells #[.pointer (some ⟨w.heap.size+1,0,none⟩)] 102);have hB:=zac ((w.alloc (Obj.cells #[.string ⟨b.toArray⟩] 9)).alloc (Obj.cells #[.nilFunc,.nilFunc,.bool false] 106)) (Obj.cells #[.pointer (some ⟨w.heap.size+1,0,none⟩)] 102) (w.heap.size+1+1) (by simp)
 have hf1:Fr No w (((w.alloc (Obj.cells #[.string ⟨b.toArray⟩] 9)).alloc (Obj.cells #[.nilFunc,.nilFunc,.bool false] 106)).alloc (Obj.cells #[.pointer (some ⟨w.heap.size+1,0,none⟩)] 102)):=(((Fr.refl No w).alloc _).alloc _).alloc _;have hs1:(((w.alloc (Obj.cells #[.string ⟨b.toArray⟩] 9)).alloc (Obj.cells #[.nilFunc,.nilFunc,.bool false] 106)).alloc (Obj.cells #[.pointer (some ⟨w.heap.size+1,0,none⟩)] 102)).heap.size=w.heap.size+3:=by simp
 have HL:=H_ hL;have HC:=H_ hC;have HB:=H_ hB;have HF1:=H_ hf1;have HS1:=H_ hs1;have HT:=H_ hT;have HST:=H_ hst;have HOK:=H_ hok;clear hL hC hB hf1 hs1 hst hok;obtain ⟨l,bad⟩:=s;go_enter Try.func24,Try.ntmps24;go_upto_region 3 with fail;generalize (((w.alloc (Obj.cells #[.string ⟨b.toArray⟩] 9)).alloc (Obj.cells #[.nilFunc,.nilFunc,.bool false] 106)).alloc (Obj.cells #[.pointer (some ⟨w.heap.size+1,0,none⟩)] 102))=W1 at *;obtain ⟨tb,htbe⟩:∃ tb,tb=W1.heap.size:=⟨_,rfl⟩;have HTBE:=H_ htbe;have htb:tb=w.heap.size+3:=by rw [htbe,HS1.out]
 have HTB:=H_ htb;clear htb
 go_cut [6] (fun s6 wx=>s6 = .pointer (some ⟨tb,0,none⟩)/\Hid (wx.heap[tb]? = some (.cells #[takeF w.heap.size (w.heap.size+1+1)] 107 (0,0)))/\Hid (Fr No W1 wx))
 case first =>
  have hN:=zac W1 (Obj.cells #[.nilFunc] 107) _ rfl;have hcN:(W1.alloc (Obj.cells #[.nilFunc] 107)).cell? ⟨W1.heap.size,0,none⟩=some .nilFunc:=cellAt hN 0 rfl;have hfN:(W1.alloc (Obj.cells #[.nilFunc] 107)).frozen? ⟨W1.heap.size,0,none⟩=false:=(by unfold World.frozen?;rw [hN];rfl);have HN:=H_ hN;clear hN htbe;go_wp2_with (with_reducible show wpList _ _ _ ({ dst:=none,op:=Op.store 107 _ _,type:=_,pos:=_,after:=_,guard:=_ } :: _) _ _;refine zbr rfl 107 _ _ rfl W1.heap.size 0 .nilFunc (.func 59) #[] #[.pointer (some ⟨w.heap.size,0,none⟩),.pointer (some ⟨w.heap.size+1+1,0,none⟩)] rfl rfl (Try.sizeOf107 _) hcN hfN ?_);go_meet
  case rel=>exact ⟨by rw [HTBE.out],H_ (by rw [HTBE.out];first | (rw [zaa HN.out];rfl) | exact zac _ _ _ rfl),H_ (by first | exact ((Fr.refl No W1).alloc _).setCell (p:=⟨W1.heap.size,0,none⟩) (.inr (Nat.le_refl _)) _ | exact (Fr.refl No W1).alloc _)⟩
 case rest =>
 obtain ⟨rfl,HT2,HF2⟩:=hcut;generalize hwc:wc=W2 at *;clear hwc htbe;have hf2:=HF2.out;have hc2:=hf2.heap HC.out id;have hb2:=hf2.heap HB.out id;have n5:W2.cell? ⟨w.heap.size+1+1,0,none⟩=some (.pointer (some ⟨w.heap.size+1,0,none⟩)):=cellAt hb2 0 rfl;have m0:W2.cell? ⟨w.heap.size+1,0,none⟩=some .nilFunc:=cellAt hc2 0 rfl;have l0:W2.frozen? ⟨w.heap.size+1,0,none⟩=false:=by unfold World.frozen?;rw [hc2];rfl
 have lb2:=zab hb2;have HC2:=H_ hc2;have HB2:=H_ hb2;clear hc2 hb2 hf2;go_upto_region 4 with fail
 go_cut [6] (fun s6 wx=>s6 = .pointer (some ⟨tb,0,none⟩)/\Hid (wx.heap[w.heap.size+1]? = some (.cells #[rnumF tb,.nilFunc,.bool false] 106 (0,0)))/\Hid (Fr (fun x=>x=w.heap.size+1) W2 wx))
 case first =>
  go_wp2_with (with_reducible show wpList _ _ _ ({ dst:=none,op:=Op.store 103 _ _,type:=_,pos:=_,after:=_,guard:=_ } :: _) _ _;refine zbr rfl 103 _ _ rfl (w.heap.size+1) 0 .nilFunc (.func 60) #[] #[.pointer (some ⟨tb,0,none⟩)] rfl rfl (Try.sizeOf103 _) m0 l0 ?_);go_meet
  case rel=>exact ⟨rfl,H_ (by rw [zaa HC2.out];rfl),H_ ((Fr.refl (fun x=>x=w.heap.size+1) W2).setCell (p:=⟨w.heap.size+1,0,none⟩) (.inl rfl) _)⟩
 case rest =>
 obtain ⟨rfl,HC3,HF3⟩:=hcut;generalize hwc:wc=W3 at *;clear hwc n5 m0 l0 lb2;have hf3:=HF3.out;have hb3:=hf3.heap HB2.out (by omega);have n5:W3.cell? ⟨w.heap.size+1+1,0,none⟩=some (.pointer (some ⟨w.heap.size+1,0,none⟩)):=cellAt hb3 0 rfl;have m1:W3.cell? ⟨w.heap.size+1,1,none⟩=some .nilFunc:=cellAt HC3.out 1 rfl;have l1:W3.frozen? ⟨w.heap.size+1,1,none⟩=false:=by unfold World.frozen?;rw [HC3.out];rfl
 have lb3:=zab hb3;have HB3:=H_ hb3;clear hb3 hf3;go_upto_region 5 with fail
 go_cut [6] (fun s6 wx=>s6 = .pointer (some ⟨tb,0,none⟩)/\Hid (wx.heap[w.heap.size+1]? = some (.cells #[rnumF tb,rtxtF (w.heap.size+1+1) tb,.bool false] 106 (0,0)))/\Hid (Fr (fun x=>x=w.heap.size+1) W3 wx))
 case first =>
  go_wp2_with (with_reducible show wpList _ _ _ ({ dst:=none,op:=Op.store 104 _ _,type:=_,pos:=_,after:=_,guard:=_ } :: _) _ _;refine zbr rfl 104 _ _ rfl (w.heap.size+1) 1 .nilFunc (.func 61) #[] #[.pointer (some ⟨w.heap.size+1+1,0,none⟩),.pointer (some ⟨tb,0,none⟩)] rfl rfl (Try.sizeOf104 _) m1 l1 ?_);go_meet
  case rel=>exact ⟨rfl,H_ (by rw [zaa HC3.out];rfl),H_ ((Fr.refl (fun x=>x=w.heap.size+1) W3).setCell (p:=⟨w.heap.size+1,1,none⟩) (.inl rfl) _)⟩
 case rest =>
 obtain ⟨rfl,HC4,HF4⟩:=hcut;generalize hwc:wc=W4 at *;clear hwc n5 m1 l1 lb3;obtain ⟨gx,hgxe⟩:∃ gx,gx=W4.heap.size:=⟨_,rfl⟩;have HGXE:=H_ hgxe;go_upto_region 6 with fail
 go_cut [6,7] (fun s6 s7 wx=>s6 = .pointer (some ⟨tb,0,none⟩)/\s7 = .pointer (some ⟨gx,0,none⟩)/\Hid (wx.heap[gx]? = some (.cells #[.int .i64 0,.int .i64 0,.slice none 0 0,.slice none 0 0] 69 (0,0)))/\Hid (Fr No W4 wx))
 case first =>
  clear hgxe;go_wp2_with fail;go_meet
  case rel=>exact ⟨rfl,by rw [HGXE.out],H_ (by rw [HGXE.out];exact zac _ _ _ rfl),H_ ((Fr.refl No W4).alloc _)⟩
 case rest =>
 obtain ⟨rfl,rfl,HG5,HF5⟩:=hcut;generalize hwc:wc=W5 at *;clear hwc hgxe;have hs2:=zab HT2.out;have hs3:=HF3.out.size;have hs4:=HF4.out.size;have htb:=HTB.out;have hgxe:=HGXE.out;have hfw:Fr (fun x=>x=w.heap.size+1) W2 W5:=(HF3.out.trans HF4.out fun x _ h=>h).trans HF5.out fun x _ h=>h.elim;have hfw1:Fr (fun x=>x=w.heap.size+1) W1 W5:=(HF2.out.mono fun _ _ h=>h.elim).trans hfw fun x _ h=>h
 have hAt:(rdC (w.heap.size+1) w.heap.size (w.heap.size+1+1) tb).At W5 (b,false) (fun x=>x=w.heap.size+1\/x=w.heap.size\/x=w.heap.size+1+1\/x=tb):=by
  refine ⟨⟨9,hfw1.heap HL.out (by omega)⟩,⟨102,hfw1.heap HB.out (by omega)⟩,⟨106,HF5.out.heap HC4.out id⟩,⟨107,hfw.heap HT2.out (by omega)⟩,⟨by omega,by omega,by omega,by omega,by omega⟩,hb,fun x=>Iff.rfl⟩
 have hSC:=zek (rdC_ok (w.heap.size+1) w.heap.size (w.heap.size+1+1) tb) W5 (b,false) (fun x=>x=w.heap.size+1\/x=w.heap.size\/x=w.heap.size+1+1\/x=tb) gx 69 0 0 (.slice none 0 0) (.slice none 0 0) [] [] g k (l,bad) D.rev D.mark D.kvs D.events
  hAt HG5.out (by omega) (SlF.nil _ _ _ _) (SlF.nil _ _ _ _) (by simp [Value.ownBlock]) (by simp [Value.ownBlock]) (by simp [Value.ownBlock]) HST.out trivial (by simpa using hg) (by simpa using hk)
 have hSC':Calls Try.prog 62 #[.pointer (some ⟨w.heap.size+1,0,none⟩),.pointer (some ⟨gx,0,none⟩)] W5 _:=hSC;have n5:W5.cell? ⟨w.heap.size+1+1,0,none⟩=some (.pointer (some ⟨w.heap.size+1,0,none⟩)):=cellAt (hfw1.heap HB.out (by omega)) 0 rfl;have HSC:=H_ hSC';have HFW:=H_ hfw1;clear hSC hSC' hAt hs2 hs3 hs4 htb hgxe hfw hfw1;go_upto_region 8 with (go_at_call 62;(with_reducible refine HSC.out.mono ?_);rintro en w6 ⟨rfl,hst6⟩);clear n5;obtain ⟨F6,vk6,ve6,⟨a1,a2,a3,a4,a5,a6,a7⟩,g6,k6,e6,f6,n6,o6,q6⟩:=hst6;have hs2:=zab HT2.out;have hs3:=HF3.out.size;have hs4:=HF4.out.size;have htb:=HTB.out;have hgxe:=HGXE.out
 have hfin:Fr No w w6:=((HF1.out.mono fun _ _ h=>h.elim).trans HFW.out fun j hj h=>by omega).trans f6 fun j hj h=>by
  rcases h with (h | h | h | h) | h | h | h
  · omega
  · omega
  · omega
  · omega
  · omega
  · simp [Value.ownBlock] at h
  simp [Value.ownBlock] at h
 have hz1:=HF1.out.size;have hz5:=HFW.out.size
 have ho6:∀ b,vk6.ownBlock=some b->w.heap.size<=b:=fun b hb=>by
  rcases o6 b hb with h | h
  · simp [Value.ownBlock] at h
  omega
 have hq6:∀ b,ve6.ownBlock=some b->w.heap.size<=b:=fun b hb=>by
  rcases q6 b hb with h | h
  · simp [Value.ownBlock] at h
  omega
 have HO6:=H_ ho6;have HQ6:=H_ hq6;have c6:=a2.cell 0 rfl;have d6:=a3.cell 2 rfl;have s6:=a1.cell 0 rfl;have HA:=H_ hfin;have HG6:=H_ g6;have HK6:=H_ k6;have HE6:=H_ e6;clear hs2 hs3 hs4 htb hgxe hfin a1 a2 a3 a4 a5 a6 a7 f6 n6 g6 k6 e6 o6 q6 ho6 hq6 hz1 hz5;clear HL HC HB HF1 HS1 HTBE HTB HT2 HF2 HC2 HB2 HC3 HF3 HB3 HC4 HF4 HGXE HG5 HF5 HSC HFW HST;dsimp only at d6 s6
 cases bad with
 | true =>
   go_wp2_with fail
   go_ret2
   unfold LoadR;rw [if_pos rfl];exact ⟨rfl,HA.out⟩
 | false =>
   cases l with
   | cons x l =>
     go_wp2_with fail
     go_ret2
     unfold LoadR;rw [if_neg (by simp),if_pos (by simp)];exact ⟨rfl,HA.out⟩
   | nil =>
     obtain ⟨n0,n1,n2,n3⟩:=cells4 HG6.out;obtain ⟨o1,o2,o3⟩:=HOK.out rfl rfl;have hM:Calls Try.prog 63 #[.agg #[.int .i64 D.rev,.int .i64 D.mark,vk6,ve6]] w6 (MadeR TA D w6):=zoq HT.out w6 D vk6 ve6 ⟨HK6.out.toR (fun _=>rfl),HE6.out.toR (fun _=>rfl)⟩ o1 o2;have HO1:=H_ o1;have HO3:=H_ o3;have HM:=H_ hM;clear o1 o2 o3 hM;by_cases hr:zar D
     · have HM2:=H_ (HM.out.mono fun e w' h=>h.get hr)
       clear HM;go_upto_region 13 with (go_at_call 63;(with_reducible refine HM2.out.mono ?_);rintro en w7 ⟨a,S,F,rfl,hs7,hm7,hF7,hf7⟩);have hgl:=zab HG6.out;have hg7:=hf7.heap HG6.out id;obtain ⟨p0,p1,p2,p3⟩:=cells4 hg7;have hlen:=HO1.out.len;have hW:Calls Try.prog 64 #[.agg #[.int .i64 D.rev,.int .i64 D.mark,vk6,ve6]] w7 _:=zew w7 D.rev D.mark vk6 ve6 D.kvs D.events (HK6.out.fr0 hf7) (HE6.out.fr0 hf7) (SlF.apart HK6.out HE6.out (by decide)) HO3.out (by omega) (by omega);have HW:=H_ hW;have HS7:=H_ hs7;have HF7:=H_ hf7;have HX7:=H_ hF7;have HL6:=H_ HK6.out.lt;have HL7:=H_ HE6.out.lt;clear hW hs7 hf7 hF7 hg7 hlen hgl n0 n1 n2 n3 c6 d6 s6;go_upto_region 14 with (go_at_call 64;(with_reducible refine HW.out.mono ?_);rintro en w8 ⟨rfl,hf8⟩)
       all_goals (have hfin:Fr No w w8:=(HA.out.trans0 HF7.out).trans hf8 fun j hj h=>by
                   rcases h with h | h
                   · have:=HO6.out j h;omega
                   have:=HQ6.out j h;omega)
       all_goals have HFIN:=H_ hfin
       all_goals have HF8:=H_ hf8
       all_goals clear hfin hf8 p0 p1 p2 p3
       · rename_i hc _ _
         go_wp2_with fail
         go_ret2
         unfold LoadR;rw [if_neg (by simp),if_neg (by simp),if_neg (fun h=>by rw [h.2] at hc;simp at hc)];exact ⟨rfl,HFIN.out⟩
       rename_i hc
       go_ret2
       unfold LoadR;rw [if_neg (by simp),if_neg (by simp),if_pos ⟨hr,by simpa using hc⟩];refine ⟨a,S,F,rfl,zaj.fr HT.out HS7.out HF8.out fun x hx h=>?_,hm7,fun x hx=>?_,HFIN.out⟩
       · have:=HX7.out x hx
         rcases h with h | h
         · have:=HL6.out x h;omega
         have:=HL7.out x h;omega
       have:=HX7.out x hx
       have:=HA.out.size;omega
     have HM2:=H_ (HM.out.mono (R':=fun e w'=>e = .returned (.tuple #[.pointer none,.int .i64 1])/\Fr No w6 w') fun e w' h=>h.elim (fun h=>absurd h.1 hr) (fun h=>h.2))
     clear HM;go_wp2_with (go_at_call 63;(with_reducible refine HM2.out.mono ?_);rintro en w7 ⟨rfl,hf7⟩)
     go_ret2
     unfold LoadR;rw [if_neg (by simp),if_neg (by simp),if_neg (fun h=>hr h.1)];exact ⟨rfl,HA.out.trans0 hf7⟩
def PrevOk (D:Doc):Prop:=∀ e∈D.events,e.prev=kv0\/e.prev.key=e.kv.key
theorem zsn {l:List Kv} {k:ByteArray}:(hasL l k).getD kv0=kv0\/((hasL l k).getD kv0).key=k:=by
 unfold hasL
 cases h:l.find? fun x=>keq x.key k with
 | none=>exact .inl rfl
 | some y =>
   have:=List.find?_some h;exact .inr (zai.1 this)
theorem PrevOk.cut {D:Doc} (h:PrevOk D) (R:Int):PrevOk (D.cut R):=fun e he=>h e (List.mem_filter.1 he).1
theorem DocOk.prevs {n:Nat} {D:Doc} (h:DocOk n D) {e:Ev} (he:e∈D.events) (hm:D.mark < e.kv.mod):e.prev=kv0\/e.prev.key=e.kv.key:=by
 obtain ⟨A,B,hAB⟩:=List.append_of_mem he;rw [h.prev A e B hAB hm];exact zsn
theorem PrevOk.adds {n:Nat} {D:Doc} {E:List Ev} (h:PrevOk D) (hd:DocOk n (D.adds E)) (hm:∀ e∈E,e.kv.mod=D.rev+1) (hmr:D.mark<=D.rev):PrevOk (D.adds E):=by
 obtain ⟨a,b,c⟩:=Doc.adds_parts D E;intro e he;have he':=he;rw [c] at he';rcases List.mem_append.1 he' with h1 | h1
 · exact h e h1
 exact hd.prevs he (by rw [a,hm e h1];omega)
theorem zqi {k:Nat} {S:St} {D:Doc} (h:Good k S D) (hk:k<=70) {q:CalQ} (hq:fewCal q=true) (hD:PrevOk D):PrevOk (doD S D q):=by
 obtain ⟨f1,f2,f3,f4,f5⟩:=zdz hq;have hm0:=h.cpl.m0;unfold doD;by_cases h4:kindN q.1.kind=4
 · rw [if_pos h4];exact hD
 rw [if_neg h4]
 by_cases h5:kindN q.1.kind=5
 · rw [if_pos h5]
   split
   · exact hD.cut _
   exact hD
 rw [if_neg h5]
 by_cases h6:kindN q.1.kind=6
 · rw [if_pos h6];exact hD
 rw [if_neg h6]
 by_cases h7:kindN q.1.kind=7
 · rw [if_pos h7]
   obtain ⟨a,_⟩:=h.drops hk q.2.2 f3 q.2.2.length (Nat.le_refl _);have he:dropTo (D.rev+1) S q.2.2 q.2.2.length=q.2.2.foldl (dropR (D.rev+1)) (S,[]):=(by unfold dropTo;rw [List.take_length]);rw [he] at a;exact hD.adds a.doc a.mods hm0.2
 rw [if_neg h7]
 by_cases ha:applyE S q.2.1=0
 · rw [if_pos ha]
   obtain ⟨⟨a,_⟩,_⟩:=h.runs hk (zbp ha).1 (fun o ho=>by have:=(f1 o ho).1;omega) q.2.1.length (Nat.le_refl _);rw [List.take_length] at a;exact hD.adds a.doc a.mods hm0.2
 rw [if_neg ha];exact hD
theorem zoz {l:List CalQ} (h:zbo l=true):∀ i≤ l.length,PrevOk (donesT l i).2:=by
 obtain ⟨h1,h2⟩:=zav h;have hg:=zbf h;intro i
 induction i with
 | zero=>intro _ e he;simp [donesT,newD] at he
 | succ i ih =>
   intro hi;obtain ⟨q,hq⟩:∃ q,l[i]? = some q:=⟨_,List.getElem?_eq_getElem (by omega)⟩;rw [zcn l hq];exact zqi (hg i (by omega)) (by omega) (h2 q (List.mem_of_getElem? hq)) (ih (by omega))
theorem zsr {l:List CalQ} (h:zbo l=true):DocSm (donesT l l.length).2:=by
 obtain ⟨h1,_⟩:=zav h;have hG:=zbf h l.length (Nat.le_refl _);have hK:=zcz h l.length (Nat.le_refl _);have hP:=zoz h l.length (Nat.le_refl _);generalize donesT l l.length=SD at *;obtain ⟨S,D⟩:=SD;dsimp only at hG hK hP ⊢
 refine ⟨fun k hk=>?_,fun x hx=>⟨?_,?_⟩,?_⟩
 · have:=(zdw (hK.kvs k hk)).2;omega
 · have:=(zdw (hK.evs x hx)).2;omega
 · have h3:=(zdw (hK.evs x hx)).2
   rcases hP x hx with e | e
   · rw [e];show ByteArray.empty.size<=_;exact Nat.zero_le _
   rw [e];omega
 have hev:D.events.length<=20000 * l.length:=by have:=hG.ok.ev;rw [<-hG.cpl.events];omega
 have hkl:D.kvs.length<=16 * l.length:=by
  have h1:=hG.size;rw [<-zkf hG];unfold zah;exact Nat.le_trans (List.length_filterMap_le _ _) (by omega)
 omega
def rg0 (key:ByteArray):Rg:=⟨key,ByteArray.empty,0,0,false,false,false⟩
def bA:ByteArray:=⟨#[97]⟩
def b1:ByteArray:=⟨#[49]⟩
def b2:ByteArray:=⟨#[50]⟩
def putO (k v:ByteArray):Opr:=⟨1,rg0 k,v,0⟩
end Go.Proofs.Ythljnnjpmdgkoaa