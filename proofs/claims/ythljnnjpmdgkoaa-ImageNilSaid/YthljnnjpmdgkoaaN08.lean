/- The package index: a full kid is halved (split). The condition: splitSafe. -/
import Derived.Test.YthljnnjpmdgkoaaN07
import Derived.Deep.RegionHeld3
import Derived.Deep.DeepCutAuto
import Derived.StillTailTactics
namespace Go.Proofs.Ythljnnjpmdgkoaa
open Go Go.Proofs Go.RowKit
set_option maxRecDepth 100000
theorem TreeR.look {w:World} {t nb no ncap:Nat} {fv:Value} {Z:List Nz} {fl:List Nat} {root:Nat} {many:Int} (h:TreeR w t (.slice (some ⟨nb,no,none⟩) Z.length ncap) fv Z fl root many) (j:Nat) (z:Nz) (hz:Z[j]? = some z) :
 w.cell? ⟨nb,no+j * 2,none⟩=some z.pv/\w.cell? ⟨nb,no+j * 2+1,none⟩=some z.kv/\w.frozen? ⟨nb,no+j * 2,none⟩=false/\w.frozen? ⟨nb,no+j * 2+1,none⟩=false :=
 ⟨h.nodes.cell0 zbq j hz rfl,h.nodes.cell zbq j 1 hz rfl,h.nodes.free _,h.nodes.free _⟩
theorem zfg {w:World} {b i c j:Nat} {u:Value} (h:w.cell? ⟨c,j,none⟩=some u) (hne:b≠c\/i≠j) (v:Value):(w.setCell ⟨b,i,none⟩ v).cell? ⟨c,j,none⟩=some u:=by
 rw [World.cell?_setCell_other]
 · exact h
 intro e
 cases e
 rcases hne with h | h <;> exact h rfl
theorem zkq (w:World) (v:Value) (L:Pairs) (n:Nat) (hn:L.length=n) (hv:SlF w 127 2 pairC v L) (hl:n<=1000) :
 Calls Try.prog 152 #[v] w fun e w'=>∃ g,e = .returned (.slice (some ⟨g,0,none⟩) n n)/\SlF w' 127 2 pairC (.slice (some ⟨g,0,none⟩) n n) L/\Fr No w w'/\w.heap.size<=g:=by
 subst hn;exact zjl w v L hv hl
theorem znj (w:World) (v:Value) (L:List Nat) (n:Nat) (hn:L.length=n) (hv:SlF w 3 1 nat1 v L) (hl:n<=1000) :
 Calls Try.prog 153 #[v] w fun e w'=>∃ g,e = .returned (.slice (some ⟨g,0,none⟩) n n)/\SlF w' 3 1 nat1 (.slice (some ⟨g,0,none⟩) n n) L/\Fr No w w'/\w.heap.size<=g:=by
 subst hn;exact zkr w v L hv hl
theorem zeq {Z:List Nz} {A:Arr} (h:ndsZ Z=A) {i:Nat} (hi:i < A.length):∃ z,Z[i]? = some z/\z.nd=ndA A i:=by
 subst h;obtain ⟨z,h1,h2⟩:=zdt hi;exact ⟨z,h1,h2.symm⟩
theorem TreeR.headLen {w:World} {t:Nat} {nv fv:Value} {Z:List Nz} {fl:List Nat} {root:Nat} {many:Int} (h:TreeR w t nv fv Z fl root many) (hp:0 < Z.length):∃ nb no cap,nv = .slice (some ⟨nb,no,none⟩) Z.length cap/\Z.length<=cap:=by
 obtain ⟨a,cap,rfl,hc1,hc2,ha⟩:=h.nodes.shape;obtain ⟨nb,no,rfl⟩:=ha hp;exact ⟨nb,no,cap,rfl,hc1⟩
set_option maxHeartbeats 4000000 in
theorem zgx (w:World) (t:Nat) (A:Arr) (fl:List Nat) (root:Nat) (many:Int) (F:Nat->Prop) (h:TreeZ w t A fl root many F) (at_ i:Nat) (hs:splitSafe A fl at_ i) (hA:A.length<=109951162) (hl:fl.length<=1099511627) :
 Calls Try.prog 143 #[.pointer (some ⟨t,0,none⟩),.int .i64 at_,.int .i64 i] w fun e w'=>e = .returned (.tuple #[])/\∃ F',TreeZ w' t (splitA A fl at_ i) fl.dropLast root many F'/\Fr F w w'/\∀ b,F' b->F b\/w.heap.size<=b:=by
 obtain ⟨s1,s2,s3,s4,s5,s6,s7,s8,s9,s10⟩:=hs;have htake:=fun W hW=>ziv W t A fl root many F hW (by omega) hl;have ht:=took (A:=A) (fr:=fl) fun f hf=>⟨(s10 f hf).1,(s10 f hf).2.2.2⟩
 have hra:takeI A fl≠at_/\takeI A fl≠kidA A at_ i:=by
  constructor <;> intro e
  · have h1:=ht.cnt at_ s1
    rw [if_pos e] at h1;have h2:0 < fl.count at_:=(by omega);exact (s10 at_ (List.count_pos_iff.1 h2)).2.1 rfl
  have h1:=ht.cnt (kidA A at_ i) s6
  rw [if_pos e] at h1;have h2:0 < fl.count (kidA A at_ i):=(by omega);exact (s10 _ (List.count_pos_iff.1 h2)).2.2.1 rfl
 have hsplit:splitA A fl at_ i=(((takeA A fl).set (takeI A fl) ⟨(ndA A (kidA A at_ i)).pairs.drop 5,(ndA A (kidA A at_ i)).kids.drop 5⟩).set (kidA A at_ i) ⟨(ndA A (kidA A at_ i)).pairs.take 4,(ndA A (kidA A at_ i)).kids.take 5⟩).set at_
  ⟨(ndA A at_).pairs.take i++(ndA A (kidA A at_ i)).pairs.getD 4 default :: (ndA A at_).pairs.drop i,(ndA A at_).kids.take (i+1)++takeI A fl :: (ndA A at_).kids.drop (i+1)⟩:=rfl
 have hHT:=H_ h;have HTK:=H_ htake;obtain ⟨nv,fv,Z,hR,hZ,hF⟩:=h;subst hZ;have c0:=hR.obj.cell 0 rfl;obtain ⟨za,hza,eza⟩:=zdt s1;obtain ⟨a,cap,rfl,hc1,hc2,ha⟩:=hR.nodes.shape;have hatl:at_ < Z.length:=by rw [zaz] at s1;exact s1
 obtain ⟨nb,no,rfl⟩:=ha (by omega);have n1:=hR.nodes.cell zbq at_ 1 hza rfl;have hk0:=hR.kids at_ za hza;obtain ⟨ka,kcap,hkv,hkc1,hkc2,hka⟩:=hk0.shape;rw [eza] at s3 s5;have hil:i < za.nd.kids.length:=(List.getElem?_eq_some_iff.1 s5).1;obtain ⟨kb,ko,rfl⟩:=hka (by omega);rw [hkv] at hk0;have k0:=hk0.cell1 zak i s5 rfl;have hHT2:=hHT;have hpre:∀ x,nzC za=x->True:=fun _ _=>trivial;have n1':w.cell? ⟨nb,no+at_ * 2+1,none⟩=some (.slice (some ⟨kb,ko,none⟩) za.nd.kids.length kcap):=by rw [<-hkv];exact n1
 have HS5:=H_ s5;have HEZ:=H_ eza;have HSP:=H_ hsplit;have HRA:=H_ hra;have HTOOK:=H_ ht;have HFF:=H_ hF;have HS8:=H_ s8;have HS9:=H_ s9;have HS10:=H_ s10;have HRR:=H_ hR;have HZA:=H_ hza;have hAl:(ndsZ Z).length<=109951162:=hA;rw [zaz] at hAl;have hi1:(at_:Int) < (Z.length:Int):=by omega
 have hi2:(i:Int) < (za.nd.kids.length:Int):=by omega
 have HK0:=H_ k0;generalize hkid:kidA (ndsZ Z) at_ i=kid at *;generalize hrr:takeI (ndsZ Z) fl=r at *;have HKID:=H_ hkid;have HR0:=H_ hrr;have ht1:at_ < (takeA (ndsZ Z) fl).length:=by have:=ht.len;omega
 have ht2:kid < (takeA (ndsZ Z) fl).length:=by have:=ht.len;omega
 have ht3:r < (takeA (ndsZ Z) fl).length:=by have:=ht.lt;rwa [hrr] at this
 have ht4:(takeA (ndsZ Z) fl).length<=109951163:=by unfold takeA;rw [zaz] at hA;split <;> simp [zaz] <;> omega
 have o1:=ht.old at_ s1;have o2:=ht.old kid s6;have o3:=ht.new;rw [hrr] at o3;have O1:=H_ o1;have O2:=H_ o2;have O3:=H_ o3;have HT4:=H_ ht4;clear hR hF ha hka hk0 hza eza s5 hsplit hra ht htake s8 s9 s10 hkv n1 hpre hkid hrr o1 o2 o3 ht4;go_enter Try.func143,Try.ntmps143
 go_wp2_with (first
  | (go_at_call 142;refine (HTK.out _ hHT.out).mono ?_;rintro e w1 ⟨rfl,F1,hz1,hf1,hn1⟩
     obtain ⟨nv1,fv1,Z1,hR1,hZ1,hF1⟩:=hz1;obtain ⟨zk,hzk,ezk⟩:=zeq hZ1 ht2;have hzl:Z1.length<=109951163:=(by rw [<-zaz,hZ1];exact HT4.out);have hkl:kid < Z1.length:=(List.getElem?_eq_some_iff.1 hzk).1;obtain ⟨nb1,no1,cap1,rfl,hcap1⟩:=hR1.headLen (by omega);obtain ⟨k1,k2,k3,k4⟩:=hR1.look kid zk hzk;have hk9:zk.nd.pairs.length=9:=(by rw [ezk,O2.out];exact HS8.out);obtain ⟨pa,pcap,hpv,hpc1,hpc2,hpa⟩:=(hR1.pairs kid zk hzk).shape;obtain ⟨pb,po,rfl⟩:=hpa (by omega);have hkp:=hR1.pairs kid zk hzk;rw [hpv] at hkp k1;obtain ⟨mid,hmid⟩:∃ mid,zk.nd.pairs[4]? = some mid:=⟨_,List.getElem?_eq_getElem (by omega)⟩;have x0:=hkp.cell0 zaf 4 hmid rfl;have x1:=hkp.cell zaf 4 1 hmid rfl;rw [hk9] at hkp k1;simp only [Nat.reduceMul] at x0 x1;have hkz:(kid:Int) < (Z1.length:Int):=(by omega);have d0:=hR1.obj.cell 0 rfl
     have hlt1:t < w1.heap.size:=hR1.obj.lt;have hlt2:nb1 < w1.heap.size:=hR1.nodes.lt nb1 rfl;have hlt3:pb < w1.heap.size:=World.block_lt_of_cell? _ _ x0;have HR1:=H_ hR1;have HZ1:=H_ hZ1;have HF1:=H_ hF1;have HZK:=H_ hzk;have HEK:=H_ ezk;have HK9:=H_ hk9;have HPV:=H_ hpv;have HM:=H_ hmid;have HFR1:=H_ hf1;have HN1:=H_ hn1;have HK2:=H_ k2;clear hR1 hZ1 hF1 hzk ezk hk9 hpv hmid hf1 hn1 hpa hkp k2 k3 k4))
 have hfa:Fr No w1 (w1.alloc (Obj.cells #[.string mid.1,.int .i64 mid.2] 127)):=(Fr.refl No w1).alloc _;have hm:=zac w1 (Obj.cells #[.string mid.1,.int .i64 mid.2] 127) _ rfl;generalize w1.alloc (Obj.cells #[.string mid.1,.int .i64 mid.2] 127)=W2 at hfa hm ⊢
 have d0':=hfa.cell0 d0;have k1':=hfa.cell0 k1;have hR2:=HR1.out.fr0 hfa;obtain ⟨zr,hzr,ezr⟩:=zeq HZ1.out ht3;have hrl:r < Z1.length:=(List.getElem?_eq_some_iff.1 hzr).1;have hrz:(r:Int) < (Z1.length:Int):=by omega
 obtain ⟨r1,r2,r3,r4⟩:=hR2.look r zr hzr;have hkp2:SlF W2 127 2 pairC (.slice (some ⟨pb,po,none⟩) 9 pcap) zk.nd.pairs:=by have:=hR2.pairs kid zk HZK.out;rwa [HPV.out,HK9.out] at this
 have hkp3:SlF W2 127 2 pairC (.slice (some ⟨pb,po+10,none⟩) 4 (pcap - 5)) (zk.nd.pairs.drop 5):=by
  have:=SlF.drop zaf (L:=zk.nd.pairs) (by rw [HK9.out];exact hkp2) 5 (by rw [HK9.out];omega);rw [HK9.out] at this;exact this
 have hc9:9<=pcap:=by rw [<-HK9.out];exact hpc1
 have hc5:¬ pcap=5:=by omega
 have hl4:(zk.nd.pairs.drop 5).length=4:=by rw [List.length_drop,HK9.out]
 have HKP3:=H_ hkp3;have HKP2:=H_ hkp2;have HR2:=H_ hR2;have HZR:=H_ hzr;have HER:=H_ ezr;have HM2:=H_ hm;have HFA:=H_ hfa;have HL4:=H_ hl4;have hlW1:t < W2.heap.size:=by have:=hfa.size;omega
 have hlW2:nb1 < W2.heap.size:=by have:=hfa.size;omega
 have hi5:(5:Int)<=(pcap:Int):=by omega
 clear hR2 hkp2 hkp3 hzr ezr hm hfa d0 k1 x0 x1 hl4 hpc1;have htn:t≠nb1:=fun e=>HR1.out.a1.1 (by rw [e];rfl);have hrk2:no1+r * 2≠no1+kid * 2:=by have:=HRA.out.2;omega
 go_region_held3 (fun W=>W.cell? ⟨t,0,none⟩=some (.slice (some ⟨nb1,no1,none⟩) Z1.length cap1)/\W.cell? ⟨nb1,no1+kid * 2,none⟩=some (.slice (some ⟨pb,po,none⟩) 9 pcap))
  (first | exact ⟨d0',k1'⟩ | exact ⟨hf3.cell0 d0',hf3.cell0 k1'⟩ | exact ⟨zfg (hf3.cell0 d0') (.inl htn.symm) _,zfg (hf3.cell0 k1') (.inr hrk2) _⟩)
  (first | (go_at_call 152;refine (zkq _ _ _ 4 HL4.out (HKP3.out.fr0 (Fr.refl No W2).drew) (by omega)).mono ?_;rintro e w3 ⟨g3,rfl,hs3,hf3,hg3⟩
            have y1:=hf3.cell0 r1;have y2:=hf3.free0 r1 r3;have HS3:=H_ hs3;clear hs3))
 have hf3':Fr No W2 w3:=(Fr.refl No W2).drew.trans0 hf3
 obtain ⟨q1,q2,q3⟩:=HR2.out.setPairs (w1:=w3) (pv':=.slice (some ⟨g3,0,none⟩) 4 4) (P':=zk.nd.pairs.drop 5) r zr HZR.out (hf3'.mono fun _ _ s=>s.elim) HS3.out fun b e=>by
  obtain rfl:g3=b:=by simpa [Value.ownBlock] using e
  exact .inr hg3
 have hm4:(w3.setCell ⟨nb1,no1+r * 2,none⟩ (.slice (some ⟨g3,0,none⟩) 4 4)).heap[w1.heap.size]? = some (.cells #[.string mid.1,.int .i64 mid.2] 127 (0,0)):=by
  have h1:=hf3'.heap HM2.out id;have h2:nb1 < w1.heap.size:=hlt2;exact (Below.heap_setCell w3 _ _ _ (by show w1.heap.size≠nb1;omega)).trans h1
 have hsz4:W2.heap.size<=(w3.setCell ⟨nb1,no1+r * 2,none⟩ (.slice (some ⟨g3,0,none⟩) 4 4)).heap.size:=q2.size;generalize w3.setCell ⟨nb1,no1+r * 2,none⟩ (.slice (some ⟨g3,0,none⟩) 4 4)=W4 at q1 q2 hm4 hsz4 ⊢
 have hzk2:(Z1.set r ⟨⟨zk.nd.pairs.drop 5,zr.nd.kids⟩,.slice (some ⟨g3,0,none⟩) 4 4,zr.kv⟩)[kid]? = some zk:=by rw [List.getElem?_set_ne HRA.out.2];exact HZK.out
 generalize hZ2:Z1.set r ⟨⟨zk.nd.pairs.drop 5,zr.nd.kids⟩,.slice (some ⟨g3,0,none⟩) 4 4,zr.kv⟩=Z2 at q1 hzk2;have hZ2l:Z2.length=Z1.length:=by rw [<-hZ2];simp
 have q1':TreeR W4 t (.slice (some ⟨nb1,no1,none⟩) Z2.length cap1) fv1 Z2 fl.dropLast root many:=by rw [hZ2l];exact q1
 obtain ⟨u1,u2,u3,u4⟩:=q1'.look kid zk hzk2;rw [HPV.out,HK9.out] at u1;have hkp4:SlF W4 127 2 pairC (.slice (some ⟨pb,po,none⟩) 9 pcap) zk.nd.pairs:=by have:=q1'.pairs kid zk hzk2;rwa [HPV.out,HK9.out] at this
 have hkp5:SlF W4 127 2 pairC (.slice (some ⟨pb,po,none⟩) 4 pcap) (zk.nd.pairs.take 4):=SlF.take zaf (by rw [HK9.out];exact hkp4) 4 (by rw [HK9.out];omega);have hl4b:(zk.nd.pairs.take 4).length=4:=by rw [List.length_take,HK9.out];rfl
 have HQ1:=H_ q1';have HQ2:=H_ q2;have HQ3:=H_ q3;have HKP5:=H_ hkp5;have HL4B:=H_ hl4b;have HZK2:=H_ hzk2;have HZ2:=H_ hZ2;have HZ2L:=H_ hZ2l;have HM4:=H_ hm4;have hW4t:t < W4.heap.size:=by omega
 have hW4n:nb1 < W4.heap.size:=by omega
 have hi4:(4:Int)<=(pcap:Int):=by omega
 clear q1 q1' q2 q3 hkp4 hkp5 hl4b hzk2 hZ2 hZ2l hm4 y1 y2 HS3 hf3 hf3' d0' k1' r1 r2 r3 r4 u2 u4
 go_upto_region 6 with (first
  | (go_at_call 152;refine (zkq _ _ _ 4 HL4B.out HKP5.out (by omega)).mono ?_;rintro e w5 ⟨g5,rfl,hs5,hf5,hg5⟩
     have y1:=hf5.cell0 u1;have y2:=hf5.free0 u1 u3;have HS5:=H_ hs5;clear hs5))
 obtain ⟨q1,q2,q3⟩:=HQ1.out.setPairs (w1:=w5) (pv':=.slice (some ⟨g5,0,none⟩) 4 4) (P':=zk.nd.pairs.take 4) kid zk HZK2.out (hf5.mono fun _ _ s=>s.elim) HS5.out fun b e=>by
  obtain rfl:g5=b:=by simpa [Value.ownBlock] using e
  exact .inr hg5
 have hm6:(w5.setCell ⟨nb1,no1+kid * 2,none⟩ (.slice (some ⟨g5,0,none⟩) 4 4)).heap[w1.heap.size]? = some (.cells #[.string mid.1,.int .i64 mid.2] 127 (0,0)):=by
  have h1:=hf5.heap HM4.out id;have h2:nb1 < w1.heap.size:=hlt2;exact (Below.heap_setCell w5 _ _ _ (by show w1.heap.size≠nb1;omega)).trans h1
 have hsz6:W4.heap.size<=(w5.setCell ⟨nb1,no1+kid * 2,none⟩ (.slice (some ⟨g5,0,none⟩) 4 4)).heap.size:=q2.size;generalize w5.setCell ⟨nb1,no1+kid * 2,none⟩ (.slice (some ⟨g5,0,none⟩) 4 4)=W6 at q1 q2 hm6 hsz6 ⊢
 have hkl2:kid < Z2.length:=by have:=HZ2L.out;omega
 have hzk6:(Z2.set kid ⟨⟨zk.nd.pairs.take 4,zk.nd.kids⟩,.slice (some ⟨g5,0,none⟩) 4 4,zk.kv⟩)[kid]? = some ⟨⟨zk.nd.pairs.take 4,zk.nd.kids⟩,.slice (some ⟨g5,0,none⟩) 4 4,zk.kv⟩:=List.getElem?_set_self hkl2
 have hzr6:(Z2.set kid ⟨⟨zk.nd.pairs.take 4,zk.nd.kids⟩,.slice (some ⟨g5,0,none⟩) 4 4,zk.kv⟩)[r]? = some ⟨⟨zk.nd.pairs.drop 5,zr.nd.kids⟩,.slice (some ⟨g3,0,none⟩) 4 4,zr.kv⟩:=by
  rw [List.getElem?_set_ne (Ne.symm HRA.out.2),<-HZ2.out];exact List.getElem?_set_self hrl
 have hnds:ndsZ (Z2.set kid ⟨⟨zk.nd.pairs.take 4,zk.nd.kids⟩,.slice (some ⟨g5,0,none⟩) 4 4,zk.kv⟩)=((takeA (ndsZ Z) fl).set r ⟨zk.nd.pairs.drop 5,zr.nd.kids⟩).set kid ⟨zk.nd.pairs.take 4,zk.nd.kids⟩:=by
  rw [zch,<-HZ2.out,zch,HZ1.out]
 have hat6:(Z2.set kid ⟨⟨zk.nd.pairs.take 4,zk.nd.kids⟩,.slice (some ⟨g5,0,none⟩) 4 4,zk.kv⟩)[at_]? = Z1[at_]?:=by
  rw [List.getElem?_set_ne s7,<-HZ2.out,List.getElem?_set_ne HRA.out.1]
 generalize hZ6:Z2.set kid ⟨⟨zk.nd.pairs.take 4,zk.nd.kids⟩,.slice (some ⟨g5,0,none⟩) 4 4,zk.kv⟩=Z6 at q1 hzk6 hzr6 hnds hat6;have hZ6l:Z6.length=Z1.length:=by rw [<-hZ6,List.length_set];exact HZ2L.out
 have q1':TreeR W6 t (.slice (some ⟨nb1,no1,none⟩) Z6.length cap1) fv1 Z6 fl.dropLast root many:=by rw [hZ6l];rw [HZ2L.out] at q1;exact q1
 obtain ⟨u1',u2,u3',u4⟩:=q1'.look kid _ hzk6;obtain ⟨v1,v2,v3,v4⟩:=q1'.look r _ hzr6;obtain ⟨ka,kcap2,hkv2,hkd1,hkd2,hkd3⟩:=(q1'.kids kid _ hzk6).shape;dsimp only at u1' u2 u3' u4 v1 v2 v3 v4 hkv2 hkd1 hkd3;rw [hkv2] at u2;have d6:=q1'.obj.cell 0 rfl
 have hfr16:Fr (treeF t (.slice (some ⟨nb1,no1,none⟩) Z1.length cap1) fv1 Z1) w1 W6:=by
  refine ((HFA.out.mono fun _ _ s=>s.elim).trans HQ2.out fun b hb e=>?_).trans q2 fun b hb e=>?_
  · rcases e with rfl | e
    · exact .inr (.inl rfl)
    exact .inr (.inr (.inr ⟨r,zr,HZR.out,.inl e⟩))
  rcases e with rfl | e
  · exact .inr (.inl rfl)
  exact .inr (.inr (.inr ⟨kid,zk,HZK.out,.inl e⟩))
 have hnew16:∀ b,treeF t (.slice (some ⟨nb1,no1,none⟩) Z6.length cap1) fv1 Z6 b->treeF t (.slice (some ⟨nb1,no1,none⟩) Z1.length cap1) fv1 Z1 b\/w1.heap.size<=b:=by
  intro b hb;rw [<-hZ6,List.length_set,HZ2L.out] at hb;have hsa:w1.heap.size<=W2.heap.size:=HFA.out.size;rcases zbs HZK2.out q3 b hb with e | e
  · rw [<-HZ2.out] at e
    rcases zbs HZR.out HQ3.out b e with e | e
    · exact .inl e
    exact .inr (by omega)
  exact .inr (by omega)
 have HAT6:=H_ hat6;have HQ6:=H_ q1';have HZK6:=H_ hzk6;have HZR6:=H_ hzr6;have HND6:=H_ hnds;have HZ6L:=H_ hZ6l;have HM6:=H_ hm6;have HKV2:=H_ hkv2;have HKD3:=H_ hkd3;have HFR16:=H_ hfr16;have HNEW16:=H_ hnew16;have hW6t:t < W6.heap.size:=by omega
 have hW6n:nb1 < W6.heap.size:=by omega
 have hrz6:(r:Int) < (Z1.length:Int):=hrz;rw [hZ6l] at d6;clear hat6 q1 q1' q2 q3 hzk6 hzr6 hnds hZ6 hZ6l hm6 hkv2 hkd3 y1 y2 HS5 hf5 u1 u3 hfr16 hnew16 v1 v3;go_upto_if 63 with fail
 go_cut [64] (fun _ wx=>∃ Z8:List Nz,Hid (TreeR wx t (.slice (some ⟨nb1,no1,none⟩) Z8.length cap1) fv1 Z8 fl.dropLast root many)/\Hid (Z8.length=Z1.length) ∧
  Hid (ndsZ Z8=((takeA (ndsZ Z) fl).set r ⟨zk.nd.pairs.drop 5,zk.nd.kids.drop 5⟩).set kid ⟨zk.nd.pairs.take 4,zk.nd.kids.take 5⟩)/\Hid (wx.heap[w1.heap.size]? = some (.cells #[.string mid.1,.int .i64 mid.2] 127 (0,0))) ∧
  Hid (Fr (treeF t (.slice (some ⟨nb1,no1,none⟩) Z1.length cap1) fv1 Z1) w1 wx)/\Hid (∀ b,treeF t (.slice (some ⟨nb1,no1,none⟩) Z8.length cap1) fv1 Z8 b->treeF t (.slice (some ⟨nb1,no1,none⟩) Z1.length cap1) fv1 Z1 b\/w1.heap.size<=b)/\Hid (Z8[at_]? = Z1[at_]?))
 case first =>
  have hkn:zk.nd=ndA (ndsZ Z) kid:=HEK.out.trans O2.out;have hrn:zr.nd.kids = []:=(by rw [HER.out,O3.out];rfl);rcases HS9.out with hk0 | hk10
  · have hk0':zk.nd.kids = []:=by rw [hkn];exact hk0
    have HK0':=H_ hk0';have HRN:=H_ hrn;have hn0:zk.nd.kids.length=0:=(by rw [hk0'];rfl);have hz:¬ (0:Int) < (zk.nd.kids.length:Int):=(by omega);clear hk0 hk0' hkn hrn hn0;go_wp2;go_meet
    case rel =>
     refine ⟨Z6,HQ6.out,HZ6L.out,H_ ?_,HM6.out,HFR16.out,HNEW16.out,HAT6.out⟩;rw [HND6.out,HRN.out,HK0'.out]
     rfl
  have hk10':zk.nd.kids.length=10:=by rw [hkn];exact hk10
  obtain ⟨cb,co,rfl⟩:=HKD3.out (by omega)
  have hkq:SlF W6 3 1 nat1 (.slice (some ⟨cb,co,none⟩) 10 kcap2) zk.nd.kids:=by
   have:=HQ6.out.kids kid _ HZK6.out;dsimp only at this
   rwa [HKV2.out,hk10'] at this
  have hkq2:SlF W6 3 1 nat1 (.slice (some ⟨cb,co+5,none⟩) 5 (kcap2 - 5)) (zk.nd.kids.drop 5):=by
   have:=SlF.drop zak (L:=zk.nd.kids) (by rw [hk10'];exact hkq) 5 (by omega);rw [hk10'] at this;exact this
  have hkq3:SlF W6 3 1 nat1 (.slice (some ⟨cb,co,none⟩) 5 kcap2) (zk.nd.kids.take 5):=SlF.take zak (by rw [hk10'];exact hkq) 5 (by omega);have hl5:(zk.nd.kids.drop 5).length=5:=(by rw [List.length_drop,hk10']);have hl5b:(zk.nd.kids.take 5).length=5:=(by rw [List.length_take,hk10'];rfl);rw [hk10'] at u2;have hkc:10<=kcap2:=(by omega);have hkc5:¬ kcap2=5:=(by omega);have hkc6:(5:Int)<=(kcap2:Int):=(by omega);have hz:(0:Int) < (zk.nd.kids.length:Int):=(by omega);have HKQ2:=H_ hkq2;have HKQ3:=H_ hkq3;have HL5:=H_ hl5;have HL5B:=H_ hl5b;have HRN:=H_ hrn;have HKQ:=H_ hkq;have HK10:=H_ hk10';clear hkq hkq2 hkq3 hl5 hl5b hkn hk10 hk10' hrn;go_upto_region 7 with fail
  go_region_held3 (fun W=>W.cell? ⟨t,0,none⟩=some (.slice (some ⟨nb1,no1,none⟩) Z1.length cap1)/\W.cell? ⟨nb1,no1+kid * 2+1,none⟩=some (.slice (some ⟨cb,co,none⟩) 10 kcap2))
   (first | exact ⟨d6,u2⟩ | exact ⟨hf7.cell0 d6,hf7.cell0 u2⟩ | exact ⟨zfg (hf7.cell0 d6) (.inl htn.symm) _,zfg (hf7.cell0 u2) (.inr (by omega)) _⟩)
   (first | (go_at_call 153;refine (znj _ _ _ 5 HL5.out (HKQ2.out.fr0 (Fr.refl No W6).drew) (by omega)).mono ?_;rintro e w7 ⟨g7,rfl,hs7,hf7,hg7⟩
             have y1:=hf7.cell0 v2;have y2:=hf7.free0 v2 v4;have HS7:=H_ hs7;clear hs7))
  have hf7':Fr No W6 w7:=(Fr.refl No W6).drew.trans0 hf7
  obtain ⟨q1,q2,q3⟩:=HQ6.out.setKids (w1:=w7) (kv':=.slice (some ⟨g7,0,none⟩) 5 5) (K':=zk.nd.kids.drop 5) r _ HZR6.out (hf7'.mono fun _ _ s=>s.elim) HS7.out fun b e=>by
   obtain rfl:g7=b:=by simpa [Value.ownBlock] using e
   exact .inr hg7
  have hm8:(w7.setCell ⟨nb1,no1+r * 2+1,none⟩ (.slice (some ⟨g7,0,none⟩) 5 5)).heap[w1.heap.size]? = some (.cells #[.string mid.1,.int .i64 mid.2] 127 (0,0)):=by
   have h1:=hf7'.heap HM6.out id;have h2:nb1 < w1.heap.size:=hlt2;exact (Below.heap_setCell w7 _ _ _ (by show w1.heap.size≠nb1;omega)).trans h1
  have hsz8:W6.heap.size<=(w7.setCell ⟨nb1,no1+r * 2+1,none⟩ (.slice (some ⟨g7,0,none⟩) 5 5)).heap.size:=q2.size;generalize w7.setCell ⟨nb1,no1+r * 2+1,none⟩ (.slice (some ⟨g7,0,none⟩) 5 5)=W8 at q1 q2 hm8 hsz8 ⊢
  dsimp only at q1 q2 q3;have hzk8:(Z6.set r ⟨⟨zk.nd.pairs.drop 5,zk.nd.kids.drop 5⟩,.slice (some ⟨g3,0,none⟩) 4 4,.slice (some ⟨g7,0,none⟩) 5 5⟩)[kid]? = some ⟨⟨zk.nd.pairs.take 4,zk.nd.kids⟩,.slice (some ⟨g5,0,none⟩) 4 4,zk.kv⟩:=(by rw [List.getElem?_set_ne HRA.out.2];exact HZK6.out);have hnd8:ndsZ (Z6.set r ⟨⟨zk.nd.pairs.drop 5,zk.nd.kids.drop 5⟩,.slice (some ⟨g3,0,none⟩) 4 4,.slice (some ⟨g7,0,none⟩) 5 5⟩)=(((takeA (ndsZ Z) fl).set r ⟨zk.nd.pairs.drop 5,zr.nd.kids⟩).set kid ⟨zk.nd.pairs.take 4,zk.nd.kids⟩).set r ⟨zk.nd.pairs.drop 5,zk.nd.kids.drop 5⟩:=(by rw [zch,HND6.out]);generalize hZ8:Z6.set r ⟨⟨zk.nd.pairs.drop 5,zk.nd.kids.drop 5⟩,.slice (some ⟨g3,0,none⟩) 4 4,.slice (some ⟨g7,0,none⟩) 5 5⟩=Z8 at q1 hzk8 hnd8;have hZ8l:Z8.length=Z6.length:=(by rw [<-hZ8,List.length_set])
  have q1':TreeR W8 t (.slice (some ⟨nb1,no1,none⟩) Z8.length cap1) fv1 Z8 fl.dropLast root many:=(by rw [hZ8l];exact q1);obtain ⟨_,a2,_,a4⟩:=q1'.look kid _ hzk8;dsimp only at a2;rw [HKV2.out,HK10.out] at a2
  have hkq8:SlF W8 3 1 nat1 (.slice (some ⟨cb,co,none⟩) 5 kcap2) (zk.nd.kids.take 5):=by
   have:=q1'.kids kid _ hzk8;dsimp only at this;rw [HKV2.out] at this;exact SlF.take zak this 5 (by rw [HK10.out];omega)
  have HQ8:=H_ q1';have HQ82:=H_ q2;have HQ83:=H_ q3;have HZK8:=H_ hzk8;have HND8:=H_ hnd8;have HZ8:=H_ hZ8;have HZ8L:=H_ hZ8l;have HM8:=H_ hm8;have HKQ8:=H_ hkq8;have hW8n:nb1 < W8.heap.size:=(by omega);clear q1 q1' q2 q3 hzk8 hnd8 hZ8 hZ8l hm8 hkq8 y1 y2 HS7 hf7 hf7' d6 u2 v2 v4
  go_wp2_with (first
   | (go_at_call 153;refine (znj _ _ _ 5 HL5B.out HKQ8.out (by omega)).mono ?_;rintro e w9 ⟨g9,rfl,hs9,hf9,hg9⟩
      have y1:=hf9.cell0 a2;have y2:=hf9.free0 a2 a4;have HS9':=H_ hs9;clear hs9))
  obtain ⟨q1,q2,q3⟩:=HQ8.out.setKids (w1:=w9) (kv':=.slice (some ⟨g9,0,none⟩) 5 5) (K':=zk.nd.kids.take 5) kid _ HZK8.out (hf9.mono fun _ _ s=>s.elim) HS9'.out fun b e=>by
   obtain rfl:g9=b:=by simpa [Value.ownBlock] using e
   exact .inr hg9
  dsimp only at q1 q2 q3
  have hm10:(w9.setCell ⟨nb1,no1+kid * 2+1,none⟩ (.slice (some ⟨g9,0,none⟩) 5 5)).heap[w1.heap.size]? = some (.cells #[.string mid.1,.int .i64 mid.2] 127 (0,0)):=by
   have h1:=hf9.heap HM8.out id;have h2:nb1 < w1.heap.size:=hlt2;exact (Below.heap_setCell w9 _ _ _ (by show w1.heap.size≠nb1;omega)).trans h1
  have HQ10:=H_ q1;have HQ102:=H_ q2;have HQ103:=H_ q3;have HM10:=H_ hm10;generalize w9.setCell ⟨nb1,no1+kid * 2+1,none⟩ (.slice (some ⟨g9,0,none⟩) 5 5)=W10 at q1 q2 HQ10 HQ102 HM10 hm10 ⊢
  clear q1 q2 q3 hm10;go_meet
  case rel =>
   have hzl8:=HZ8L.out;have hl10:(Z8.set kid ⟨⟨zk.nd.pairs.take 4,zk.nd.kids.take 5⟩,.slice (some ⟨g5,0,none⟩) 4 4,.slice (some ⟨g9,0,none⟩) 5 5⟩).length=Z8.length:=(by simp);refine ⟨Z8.set kid ⟨⟨zk.nd.pairs.take 4,zk.nd.kids.take 5⟩,.slice (some ⟨g5,0,none⟩) 4 4,.slice (some ⟨g9,0,none⟩) 5 5⟩,H_ (by rw [hl10];exact HQ10.out),H_ (by rw [hl10,hzl8];exact HZ6L.out),H_ ?_,HM10,H_ ?_,H_ ?_,H_ (by rw [List.getElem?_set_ne s7,<-HZ8.out,List.getElem?_set_ne HRA.out.1];exact HAT6.out)⟩
   · rw [zch,HND8.out]
     rw [List.set_comm _ _ HRA.out.2.symm,List.set_set,List.set_set]
   · refine (HFR16.out.trans HQ82.out fun b hb e=>?_).trans HQ102.out fun b hb e=>?_
     · rcases e with rfl | e
       · exact .inr (.inl rfl)
       rcases HNEW16.out b (.inr (.inr (.inr ⟨r,_,HZR6.out,.inr e⟩))) with e | e
       · exact e
       omega
     rcases e with rfl | e
     · exact .inr (.inl rfl)
     rcases HNEW16.out b (.inr (.inr (.inr ⟨kid,_,HZK6.out,.inr e⟩))) with e | e
     · exact e
     omega
   intro b hb
   rw [hl10] at hb;have hsz:=HFR16.out.size;rcases zbs HZK8.out HQ103.out b hb with e | e
   · rw [<-HZ8.out,List.length_set] at e
     rcases zbs HZR6.out HQ83.out b e with e | e
     · exact HNEW16.out b e
     exact .inr (by omega)
   exact .inr (by omega)
 case rest =>
  obtain ⟨Z8,H8,HL8,HN8,HM8,HFR8,HNW8,HAT8⟩:=hcut;obtain ⟨za8,hza8,eza8⟩:=zeq HZ1.out ht1;have hzz8:Z8[at_]? = some za8:=HAT8.out.trans hza8;have hnd8:za8.nd=ndA (ndsZ Z) at_:=eza8.trans O1.out;have hatl8:at_ < Z1.length:=(List.getElem?_eq_some_iff.1 hza8).1;obtain ⟨a1,a2,a3,a4⟩:=H8.out.look at_ _ hzz8;have d8:=H8.out.obj.cell 0 rfl;rw [HL8.out] at d8;have b0:wc.cell? ⟨w1.heap.size,0,none⟩=some (.string mid.1):=(by simp [World.cell?,HM8.out]);have b1:wc.cell? ⟨w1.heap.size,1,none⟩=some (.int .i64 mid.2):=(by simp [World.cell?,HM8.out]);have hnbx:∀ b,zown za8 b->b < w1.heap.size:=fun b hb=>HR1.out.zlt hza8 hb;have hpn:¬ za8.pv.ownBlock=some nb1:=fun e=>(H8.out.a2 at_ _ nb1 hzz8 (.inl e)).2.1 rfl;have hkn:¬ za8.kv.ownBlock=some nb1:=fun e=>(H8.out.a2 at_ _ nb1 hzz8 (.inr e)).2.1 rfl
  have hpk:∀ b,za8.pv.ownBlock=some b->za8.kv.ownBlock≠some b:=fun b=>H8.out.a3 at_ za8 b hzz8;have hpb:¬ za8.pv.ownBlock=some w1.heap.size:=fun e=>by have:=hnbx _ (.inl e);omega
  have hpp:=H8.out.pairs at_ _ hzz8;have hkk:=H8.out.kids at_ _ hzz8;have hiP:i<=za8.nd.pairs.length:=(by rw [hnd8];exact s4);have hP9:za8.nd.pairs.length<=9:=(by rw [hnd8];exact s2);have hK10:za8.nd.kids.length<=10:=(by rw [hnd8,HEZ.out];exact s3);have hiK:i+1<=za8.nd.kids.length:=(by rw [hnd8,HEZ.out];omega);have hwl1:t < wc.heap.size:=(by have:=HFR8.out.size;omega);have hwl2:nb1 < wc.heap.size:=(by have:=HFR8.out.size;omega);have hwl3:w1.heap.size < wc.heap.size:=zab HM8.out;have hatz:(at_:Int) < (Z1.length:Int):=(by omega);have HPP:=H_ hpp;have HKK:=H_ hkk;have HZZ:=H_ hzz8;have HND:=H_ hnd8;have HNBX:=H_ hnbx;have HPK:=H_ hpk;have HZA8:=H_ hza8;clear hpp hkk hzz8 hnd8 hnbx hpk hza8 eza8;go_upto_region 10 with fail
  go_region_law (go_simp;go_at_call 144;refine (zfb _ _ _ i mid (HPP.out.drew) hiP (by omega)).mono ?_;rintro e w11 ⟨g11,o11,c11,rfl,hs11,hf11,hg11⟩
                 have y1:=hf11.cell a1 hpn;have y2:=hf11.free a1 a3 hpn;have HS11:=H_ hs11;have HG11:=H_ hg11;clear hs11 hg11)
  all_goals
   have hf11':Fr (fun b=>za8.pv.ownBlock=some b) wc w11:=(Fr.refl _ wc).drew.trans hf11 fun _ _ e=>e
   have hgo:∀ b,(Value.slice (some ⟨g11,o11,none⟩) (za8.nd.pairs.length+1) c11).ownBlock=some b->za8.pv.ownBlock=some b\/wc.heap.size<=b:=fun b e=>by
    obtain rfl:g11=b:=by simpa [Value.ownBlock] using e
    exact HG11.out
   obtain ⟨q1,q2,q3⟩:=H8.out.setPairs (w1:=w11) (pv':=.slice (some ⟨g11,o11,none⟩) (za8.nd.pairs.length+1) c11) (P':=za8.nd.pairs.take i++mid :: za8.nd.pairs.drop i) at_ za8 HZZ.out hf11' HS11.out hgo;have hsz12:wc.heap.size<=(w11.setCell ⟨nb1,no1+at_ * 2,none⟩ (.slice (some ⟨g11,o11,none⟩) (za8.nd.pairs.length+1) c11)).heap.size:=q2.size;generalize w11.setCell ⟨nb1,no1+at_ * 2,none⟩ (.slice (some ⟨g11,o11,none⟩) (za8.nd.pairs.length+1) c11)=W12 at q1 q2 hsz12 ⊢
   have hat8:at_ < Z8.length:=(by have:=HL8.out;omega);have hzz12:(Z8.set at_ ⟨⟨za8.nd.pairs.take i++mid :: za8.nd.pairs.drop i,za8.nd.kids⟩,.slice (some ⟨g11,o11,none⟩) (za8.nd.pairs.length+1) c11,za8.kv⟩)[at_]? = some ⟨⟨za8.nd.pairs.take i++mid :: za8.nd.pairs.drop i,za8.nd.kids⟩,.slice (some ⟨g11,o11,none⟩) (za8.nd.pairs.length+1) c11,za8.kv⟩:=List.getElem?_set_self hat8;have hnd12:ndsZ (Z8.set at_ ⟨⟨za8.nd.pairs.take i++mid :: za8.nd.pairs.drop i,za8.nd.kids⟩,.slice (some ⟨g11,o11,none⟩) (za8.nd.pairs.length+1) c11,za8.kv⟩)=(ndsZ Z8).set at_ ⟨za8.nd.pairs.take i++mid :: za8.nd.pairs.drop i,za8.nd.kids⟩:=(by rw [zch]);have hnew12:=zbs (t:=t) (nv:=.slice (some ⟨nb1,no1,none⟩) Z8.length cap1) (fv:=fv1) HZZ.out q3
   generalize hZ12:Z8.set at_ ⟨⟨za8.nd.pairs.take i++mid :: za8.nd.pairs.drop i,za8.nd.kids⟩,.slice (some ⟨g11,o11,none⟩) (za8.nd.pairs.length+1) c11,za8.kv⟩=Z12 at q1 hzz12 hnd12 hnew12;have hZ12l:Z12.length=Z8.length:=(by rw [<-hZ12,List.length_set]);have q1':TreeR W12 t (.slice (some ⟨nb1,no1,none⟩) Z12.length cap1) fv1 Z12 fl.dropLast root many:=(by rw [hZ12l];exact q1);obtain ⟨_,e2,_,e4⟩:=q1'.look at_ _ hzz12;have hkk12:=q1'.kids at_ _ hzz12;dsimp only at e2 e4 hkk12;have HQ12:=H_ q1';have HQ122:=H_ q2;have HNW12:=H_ hnew12;have HZZ12:=H_ hzz12;have HND12:=H_ hnd12;have HZ12L:=H_ hZ12l;have HKK12:=H_ hkk12;have hw12n:nb1 < W12.heap.size:=(by omega);clear q1 q1' q2 q3 hnew12 hzz12 hnd12 hZ12 hZ12l hkk12 hf11 hf11' hgo y1 y2 a1 a2 a3 a4 b0 b1 d8
   go_wp2_with (first
    | (go_at_call 149;refine (zko _ _ _ (i+1) r HKK12.out hiK (by omega)).mono ?_;rintro e w13 ⟨g13,o13,c13,rfl,hs13,hf13,hg13⟩
       have y1:=hf13.cell e2 hkn;have y2:=hf13.free e2 e4 hkn;have HS13:=H_ hs13;have HG13:=H_ hg13;clear hs13 hg13))
   refine bodyPost_end (results_none rfl _ _ _) rfl ⟨rfl,?_⟩
   have hgo:∀ b,(Value.slice (some ⟨g13,o13,none⟩) (za8.nd.kids.length+1) c13).ownBlock=some b->za8.kv.ownBlock=some b\/W12.heap.size<=b:=fun b e=>by
    obtain rfl:g13=b:=by simpa [Value.ownBlock] using e
    exact HG13.out
   obtain ⟨q1,q2,q3⟩:=HQ12.out.setKids (w1:=w13) (kv':=.slice (some ⟨g13,o13,none⟩) (za8.nd.kids.length+1) c13) (K':=za8.nd.kids.take (i+1)++r :: za8.nd.kids.drop (i+1)) at_ _ HZZ12.out hf13 HS13.out hgo;dsimp only at q1 q2 q3;have hkn:zk.nd=ndA (ndsZ Z) kid:=HEK.out.trans O2.out
   have hAA:splitA (ndsZ Z) fl at_ i=ndsZ (Z12.set at_ ⟨⟨za8.nd.pairs.take i++mid :: za8.nd.pairs.drop i,za8.nd.kids.take (i+1)++r :: za8.nd.kids.drop (i+1)⟩,.slice (some ⟨g11,o11,none⟩) (za8.nd.pairs.length+1) c11,.slice (some ⟨g13,o13,none⟩) (za8.nd.kids.length+1) c13⟩):=by
    have hmid:(ndA (ndsZ Z) kid).pairs.getD 4 default=mid:=(by rw [<-hkn];simp [List.getD,HM.out]);rw [HSP.out,hmid,zch,HND12.out,HN8.out,<-hkn,<-HND.out,List.set_set]
   have hsz1:=HFR1.out.size;have hsz8:=HFR8.out.size;refine ⟨_,⟨_,_,_,q1,hAA.symm,fun b=>Iff.rfl⟩,((HFR1.out.trans HFR8.out fun b hb e=>?_).trans HQ122.out fun b hb e=>?_).trans q2 fun b hb e=>?_,fun b hb=>?_⟩
   · rcases HN1.out b ((HF1.out b).2 e) with e | e
     · exact e
     omega
   · have e':treeF t (.slice (some ⟨nb1,no1,none⟩) Z1.length cap1) fv1 Z1 b:=by
      rcases e with rfl | e
      · exact .inr (.inl rfl)
      exact .inr (.inr (.inr ⟨at_,za8,HZA8.out,.inl e⟩))
     rcases HN1.out b ((HF1.out b).2 e') with e | e
     · exact e
     omega
   · have e':treeF t (.slice (some ⟨nb1,no1,none⟩) Z1.length cap1) fv1 Z1 b:=by
      rcases e with rfl | e
      · exact .inr (.inl rfl)
      exact .inr (.inr (.inr ⟨at_,za8,HZA8.out,.inr e⟩))
     rcases HN1.out b ((HF1.out b).2 e') with e | e
     · exact e
     omega
   rw [HZ12L.out] at hb
   have key:∀ b,treeF t (.slice (some ⟨nb1,no1,none⟩) Z8.length cap1) fv1 Z8 b->F b\/w.heap.size<=b:=by
    intro b hb;rcases HNW8.out b hb with e | e
    · exact HN1.out b ((HF1.out b).2 e)
    exact .inr (by omega)
   rcases zbs HZZ12.out q3 b hb with e | e
   · rcases HNW12.out b e with e | e
     · exact key b e
     exact .inr (by omega)
   exact .inr (by omega)
end Go.Proofs.Ythljnnjpmdgkoaa
