/- The statement StorePlays's function returns true, whatever its arguments are. -/
import Derived.Test.YthljnnjpmdgkoaaGreatG30
import Derived.Deep.RegionHeld3
namespace Go.Proofs.YthljnnjpmdgkoaaGreat
open Go Go.Proofs Go.RowKit
set_option maxRecDepth 100000
set_option maxHeartbeats 16000000 in
theorem zij {TA:zaq} (hT:TreeOk TA 1000000) (hTD:TreeDl TA) (w:World) (v:Value) (l:List CalQ) (hv:CalR w v l):Calls Tryz.prog 3 #[v] w fun e w'=>e = .returned (.bool true)/\Fr No w w':=by
 have hfc:=zln w v l hv;have hgd:=fun hf:zco l=true=>zro hf;have hl30:=fun hf:zco l=true=>(zgs hf);obtain ⟨hv,hops,hkeys⟩:=hv;obtain ⟨a,cap,rfl,hc1,hc2,ha⟩:=hv.shape;have HV:=H_ hv;have HA:=H_ ha;have HO:=H_ hops;have HK:=H_ hkeys;have HFC:=H_ hfc;clear hv ha hops hkeys hfc
 cases hfl:zco l with
 | false =>
   rw [hfl] at HFC;clear hfl hgd hl30;go_enter Tryz.func3,Tryz.ntmps3
   go_wp2_with (first
    | (go_at_call 15;with_reducible refine HFC.out.mono ?_;rintro e w2 ⟨rfl,rfl⟩)
    | (go_at_call 16;refine (zht hT hTD _).mono ?_;rintro e w3 ⟨rfl,hf3⟩))
   go_ret;exact ⟨rfl,hf3⟩
 | true =>
   obtain ⟨h30,hq30⟩:=hl30 hfl;have HGD:=H_ (hgd hfl);have HQ30:=H_ hq30;rw [hfl] at HFC;clear hfl hgd hl30 hq30;go_enter Tryz.func3,Tryz.ntmps3
   go_upto_region 6 with (first
    | (go_at_call 15;with_reducible refine HFC.out.mono ?_;rintro e w1 ⟨rfl,rfl⟩)
    | (go_at_call 17;refine (zfy hT _).mono ?_;rintro e w2 ⟨s,rfl,F0,hs0,hf0,hn0⟩))
   have hb3:=zad w2 (Obj.cells #[.int .i64 0,.int .i64 0,.slice none 0 0,.slice none 0 0] 30) _ rfl;have hf3:Fr No w2 (w2.alloc (Obj.cells #[.int .i64 0,.int .i64 0,.slice none 0 0,.slice none 0 0] 30)):=(Fr.refl No w2).alloc _;have hs3:zal TA (w2.alloc (Obj.cells #[.int .i64 0,.int .i64 0,.slice none 0 0,.slice none 0 0] 30)) s newS F0:=hs0.fr0 hT hf3;have hnb0:∀ b,F0 b->b < w2.heap.size:=hs0.lt hT;generalize w2.alloc (Obj.cells #[.int .i64 0,.int .i64 0,.slice none 0 0,.slice none 0 0] 30)=W3 at *;generalize hnb:w2.heap.size=nb at *;have HS3:Hid (zal TA W3 s (donesT l 0).1 F0):=H_ hs3;have HB3:Hid (W3.heap[nb]? = some (Obj.cells #[.int .i64 (donesT l 0).2.rev,.int .i64 (donesT l 0).2.mark,.slice none (donesT l 0).2.kvs.length 0,.slice none (donesT l 0).2.events.length 0] 30 (0,0))):=H_ hb3;have HF3:=H_ (hf0.trans0 hf3)
   have HN0:=H_ hn0;have HNB:Hid (¬ F0 nb):=H_ (fun h=>absurd (hnb0 nb h) (Nat.lt_irrefl _));have HNW:Hid (w.heap.size<=nb):=H_ (by rw [<-hnb];exact hf0.size);clear hb3 hf3 hs3 hnb0 hs0 hf0 hn0
   go_loopg [5] l.length (fun g s5 wr=>∃ (i:Nat) (F:Nat->Prop) (b1 b2:Option Addr) (c1 c2:Nat),s5 = .int .i64 i/\i+g=l.length/\Hid (zal TA wr s (donesT l i).1 F) ∧
    Hid (wr.heap[nb]? = some (Obj.cells #[.int .i64 (donesT l i).2.rev,.int .i64 (donesT l i).2.mark,.slice b1 (donesT l i).2.kvs.length c1,.slice b2 (donesT l i).2.events.length c2] 30 (0,0))) ∧
    Hid (DocR wr (donesT l i).2 (.slice b1 (donesT l i).2.kvs.length c1) (.slice b2 (donesT l i).2.events.length c2))/\Hid ((0 < (donesT l i).2.kvs.length->∀ b,(Value.slice b1 (donesT l i).2.kvs.length c1).ownBlock=some b->¬ F b)/\(0 < (donesT l i).2.events.length->∀ b,(Value.slice b2 (donesT l i).2.events.length c2).ownBlock=some b->¬ F b)) ∧
    Hid (Fr No w wr)/\Hid (∀ b,F b->w.heap.size<=b)/\Hid (¬ F nb))
   case atStart=>exact ⟨0,F0,none,none,0,0,rfl,by omega,HS3,HB3,H_ ⟨SlR.nil _ _ _,SlR.nil _ _ _⟩,H_ ⟨fun h=>absurd h (Nat.lt_irrefl 0),fun h=>absurd h (Nat.lt_irrefl 0)⟩,HF3,HN0,HNB⟩
   case round =>
    obtain ⟨i,F,b1,b2,c1,c2,rfl,hi,HS,HB,HD,HAP,HF,HN,HNF⟩:=hrel;have hG:=HGD.out i (by omega)
    cases gk with
    | zero =>
      have hil:¬ (i:Int) < (l.length:Int):=(by omega);have hie:i=l.length:=(by omega);subst hie;have hst:=zpm hT (n:=20000 * l.length) (by omega) wr.drew s (donesT l l.length).1 F (HS.out.fr0 hT (Fr.refl No wr).drew) hG.ok (by have:=hG.size;omega);rw [zch hG,hG.cpl.events,hG.rev,hG.cpl.mark] at hst
      have hkl:(donesT l l.length).2.kvs.length<=1000000:=by
       have h1:=hG.size;rw [<-zch hG];unfold zam;exact Nat.le_trans (List.length_filterMap_le _ _) (by omega)
      have hel:(donesT l l.length).2.events.length<=1000000:=(by have:=hG.ok.ev;rw [<-hG.cpl.events];omega);have HST:=H_ hst;clear hst hG;generalize (donesT l l.length).2=D at *;have HX:=H_ (fun W (hW:Fr No wr W)=>cells4 (hW.heap HB.out id));have q1:=HX.out wr (Fr.refl No wr);have q2:=HX.out wr.drew (Fr.refl No wr).drew;go_upto_region 12 with fail
      go_region_held3 (fun W=>W.cell? ⟨nb,0,none⟩=some (.int .i64 D.rev)/\W.cell? ⟨nb,1,none⟩=some (.int .i64 D.mark)/\W.cell? ⟨nb,2,none⟩=some (.slice b1 D.kvs.length c1)/\W.cell? ⟨nb,3,none⟩=some (.slice b2 D.events.length c2))
       (first | with_reducible exact q1 | with_reducible exact q2 | with_reducible exact q3 | with_reducible exact q4 | with_reducible exact q5 | with_reducible exact q6)
       (first
         | (go_at_call 23;refine HST.out.mono ?_;rintro e w4 ⟨kv,ev,rfl,hk4,he4,h4,_,_⟩
            obtain ⟨sa,sc,rfl,_,_,_⟩:=hk4.shape;obtain ⟨ta,tc,rfl,_,_,_⟩:=he4.shape;have G4:=H_ ((Fr.refl No wr).drew.trans0 h4);have q3:=HX.out w4 G4.out;have HK4:=H_ hk4;have HE4:=H_ he4;unfold stateV;clear hk4 he4 h4)
         | (go_at_call 22;have hpl:=zof w4 D.rev D.mark D.kvs.length D.events.length sc tc sa ta;unfold stateV at hpl;refine hpl.mono ?_;rintro e w5 ⟨rfl,h5⟩
            have G5:=H_ (G4.out.trans0 h5);have q4:=HX.out w5 G5.out;have hsm:=zoc w5 D.rev D.mark (.slice sa D.kvs.length sc) (.slice b1 D.kvs.length c1) (.slice ta D.events.length tc) (.slice b2 D.events.length c2) D.kvs D.events ((HK4.out.fr0 h5).toR zae) (HD.out.kvs.fr0 G5.out) ((HE4.out.fr0 h5).toR zab) (HD.out.evs.fr0 G5.out) (by omega) (by omega);unfold stateV at hsm;have HSM:=H_ hsm;clear hpl hsm h5)
         | (go_at_call 21;refine HSM.out.mono ?_;rintro e w6 ⟨rfl,h6⟩
            have G6:=H_ (G5.out.trans0 h6);have q5:=HX.out w6 G6.out;clear h6)
         | (go_at_call 16;refine (zht hT hTD _).mono ?_;rintro e w7 ⟨rfl,h7⟩
            have G7:=H_ (G6.out.trans0 h7);have q6:=HX.out w7 G7.out;clear h7))
      go_wp2;go_ret;exact ⟨rfl,HF.out.trans0 G7.out⟩
    | succ g =>
      have hil:(i:Int) < (l.length:Int):=(by omega);obtain ⟨gb,go,rfl⟩:=HA.out (by omega);obtain ⟨q,hx⟩:∃ q,l[i]? = some q:=⟨_,List.getElem?_eq_getElem (by omega)⟩;have hops:=HO.out i q hx;have hkeys:=HK.out i q hx;have hvr:=HV.out.fr0 HF.out;have hcell:=fun W (hW:Fr No wr W)=>(hvr.fr0 hW).cells12 zbz i hx rfl
      have hgb:¬ F gb:=fun h=>by
       have h1:=HN.out gb h;have h2:=HV.out.lt zbz (by decide) (by omega) gb rfl;omega
      have hpl:=fun W (hW:Fr No wr W)=>zms hT hTD hG (by omega) W s F (HS.out.fr0 hT hW) q (HQ30.out q (List.mem_of_getElem? hx)) (hops.fr0 (HF.out.trans0 hW)) (hkeys.fr0 (HF.out.trans0 hW))
       (fun hp b hb hF=>by have:=hops.lt zaf (by decide) hp b hb;have:=HN.out b hF;omega) (fun hp b hb hF=>by have:=hkeys.lt zcy (by decide) hp b hb;have:=HN.out b hF;omega) b1 b2 c1 c2 (HD.out.fr0 hW) HAP.out
      have hFlt:∀ b,F b->b < wr.heap.size:=HS.out.lt hT;have HFL:=H_ hFlt;have hG2:=HGD.out (i+1) (by omega);have hsu:=zjg l hx;rw [<-show (donesT l (i+1)).1=doT (donesT l i).1 q from by rw [hsu],<-show (donesT l (i+1)).2=doD (donesT l i).1 (donesT l i).2 q from by rw [hsu]] at hpl;have hrv:=hG2.rev;have hmk:=hG2.cpl.mark;have hrw:(donesT l (i+1)).1.rev=(donesT l (i+1)).2.rev:=hrv;obtain ⟨oa,ocap,hos,_,_,_⟩:=hops.shape;obtain ⟨ka,kcap,hks,_,_,_⟩:=hkeys.shape;have HPL:=H_ hpl;have HCELL:=H_ hcell;have HRV:=H_ hrv;have HMK:=H_ hmk;have HD2:Hid (∃ x,x=donesT l (i+1)):=H_ ⟨_,rfl⟩;clear hpl hcell hsu hx hvr hops hkeys hG hG2 hrv hmk hrw hFlt;generalize hD1:(donesT l i).2=D at *;clear hD1;obtain ⟨⟨p1,p2,⟨g1,g2,g3,g4,g5,g6,g7⟩,p3,p4,p5⟩,ops,keys⟩:=q;dsimp only at hos hks HCELL HPL
      subst hos hks;unfold docV calC rgC at HPL;dsimp only at HPL;generalize hS2:(donesT l (i+1)).1=S2 at HPL HRV HMK;generalize hD2:(donesT l (i+1)).2=D2 at HPL HRV HMK;have HS2:=H_ hS2;have HDD2:=H_ hD2;clear hS2 hD2 HD2;have HX:=H_ (fun W (hW:Fr F wr W)=>cells4 (hW.heap HB.out HNF.out))
      have HCW:Hid (∀ W,Fr F wr W->W.cell? ⟨gb,go+i * 12,none⟩=some (.int .i64 p1)/\W.cell? ⟨gb,go+i * 12+1,none⟩=some (.slice oa ops.length ocap)/\W.cell? ⟨gb,go+i * 12+2,none⟩=some (.string g1)/\W.cell? ⟨gb,go+i * 12+3,none⟩=some (.string g2)/\W.cell? ⟨gb,go+i * 12+4,none⟩=some (.int .i64 g3)/\W.cell? ⟨gb,go+i * 12+5,none⟩=some (.int .i64 g4)/\W.cell? ⟨gb,go+i * 12+6,none⟩=some (.bool g5)/\W.cell? ⟨gb,go+i * 12+7,none⟩=some (.bool g6)/\W.cell? ⟨gb,go+i * 12+8,none⟩=some (.bool g7)/\W.cell? ⟨gb,go+i * 12+9,none⟩=some (.int .i64 p3)/\W.cell? ⟨gb,go+i * 12+10,none⟩=some (.int .i64 p4)/\W.cell? ⟨gb,go+i * 12+11,none⟩=some (.slice ka keys.length kcap)):=H_ (fun W hW=>by
       obtain ⟨x0,x1,x2,x3,x4,x5,x6,x7,x8,x9,x10,x11⟩:=HCELL.out wr (Fr.refl No wr);exact ⟨hW.cell x0 hgb,hW.cell x1 hgb,hW.cell x2 hgb,hW.cell x3 hgb,hW.cell x4 hgb,hW.cell x5 hgb,hW.cell x6 hgb,hW.cell x7 hgb,hW.cell x8 hgb,hW.cell x9 hgb,hW.cell x10 hgb,hW.cell x11 hgb⟩)
      have q1:=And.intro (HX.out wr (Fr.refl F wr)) (HCW.out wr (Fr.refl F wr));have q2:=And.intro (HX.out wr.drew (Fr.refl F wr).drew) (HCW.out wr.drew (Fr.refl F wr).drew);have q7:=And.intro (HX.out (wr.alloc (Obj.cells #[.int .i64 0,.int .i64 0,.slice none 0 0,.slice none 0 0] 30)).drew ((Fr.refl F wr).alloc _).drew) (HCW.out (wr.alloc (Obj.cells #[.int .i64 0,.int .i64 0,.slice none 0 0,.slice none 0 0] 30)).drew ((Fr.refl F wr).alloc _).drew);have q8:=And.intro (HX.out (wr.drew.alloc (Obj.cells #[.int .i64 0,.int .i64 0,.slice none 0 0,.slice none 0 0] 30)) ((Fr.refl F wr).drew.alloc _)) (HCW.out (wr.drew.alloc (Obj.cells #[.int .i64 0,.int .i64 0,.slice none 0 0,.slice none 0 0] 30)) ((Fr.refl F wr).drew.alloc _));go_upto_region 8 with fail
      go_region_held3 (fun W=>(W.cell? ⟨nb,0,none⟩=some (.int .i64 D.rev)/\W.cell? ⟨nb,1,none⟩=some (.int .i64 D.mark)/\W.cell? ⟨nb,2,none⟩=some (.slice b1 D.kvs.length c1)/\W.cell? ⟨nb,3,none⟩=some (.slice b2 D.events.length c2))/\(W.cell? ⟨gb,go+i * 12,none⟩=some (.int .i64 p1)/\W.cell? ⟨gb,go+i * 12+1,none⟩=some (.slice oa ops.length ocap)/\W.cell? ⟨gb,go+i * 12+2,none⟩=some (.string g1)/\W.cell? ⟨gb,go+i * 12+3,none⟩=some (.string g2)/\W.cell? ⟨gb,go+i * 12+4,none⟩=some (.int .i64 g3)/\W.cell? ⟨gb,go+i * 12+5,none⟩=some (.int .i64 g4)/\W.cell? ⟨gb,go+i * 12+6,none⟩=some (.bool g5)/\W.cell? ⟨gb,go+i * 12+7,none⟩=some (.bool g6)/\W.cell? ⟨gb,go+i * 12+8,none⟩=some (.bool g7)/\W.cell? ⟨gb,go+i * 12+9,none⟩=some (.int .i64 p3)/\W.cell? ⟨gb,go+i * 12+10,none⟩=some (.int .i64 p4)/\W.cell? ⟨gb,go+i * 12+11,none⟩=some (.slice ka keys.length kcap)))
       (first | with_reducible exact q1 | with_reducible exact q2 | with_reducible exact q3 | with_reducible exact q4 | with_reducible exact q5 | with_reducible exact q7 | with_reducible exact q8 | fail)
       (first
         | (go_at_call 18;refine (HPL.out wr.drew (Fr.refl No wr).drew).mono ?_;rintro e w5 ⟨v5,F5,rfl,hs5,hd5,h5,hn5⟩
            obtain ⟨e1,f1,e2,f2,rfl,hdr5,hap1,hap2⟩:=hd5;unfold docV;have h5':Fr F wr w5:=((Fr.refl No wr).drew.mono fun _ _ h=>h.elim:Fr F wr wr.drew).trans h5 fun _ _ h=>h;have q3:=And.intro (HX.out w5 h5') (HCW.out w5 h5');have q4:=And.intro (HX.out (w5.alloc (Obj.cells #[.int .i64 0,.int .i64 0,.slice none 0 0,.slice none 0 0] 30)) (h5'.alloc _)) (HCW.out (w5.alloc (Obj.cells #[.int .i64 0,.int .i64 0,.slice none 0 0,.slice none 0 0] 30)) (h5'.alloc _));have q5:=And.intro (HX.out (w5.alloc (Obj.cells #[.int .i64 D2.rev,.int .i64 D2.mark,.slice e1 D2.kvs.length f1,.slice e2 D2.events.length f2] 30)) (h5'.alloc _)) (HCW.out (w5.alloc (Obj.cells #[.int .i64 D2.rev,.int .i64 D2.mark,.slice e1 D2.kvs.length f1,.slice e2 D2.events.length f2] 30)) (h5'.alloc _))
            have hx6:=zad w5 (Obj.cells #[.int .i64 D2.rev,.int .i64 D2.mark,.slice e1 D2.kvs.length f1,.slice e2 D2.events.length f2] 30) _ rfl;have hf6:Fr No w5 (w5.alloc (Obj.cells #[.int .i64 D2.rev,.int .i64 D2.mark,.slice e1 D2.kvs.length f1,.slice e2 D2.events.length f2] 30)):=(Fr.refl No w5).alloc _;obtain ⟨xb,hxb⟩:∃ xb,w5.heap.size=xb:=⟨_,rfl⟩;obtain ⟨W6,hW6⟩:∃ W6,w5.alloc (Obj.cells #[.int .i64 D2.rev,.int .i64 D2.mark,.slice e1 D2.kvs.length f1,.slice e2 D2.events.length f2] 30)=W6:=⟨_,rfl⟩;rw [hxb,hW6] at hx6;rw [hW6] at hf6;have HXB:=H_ hxb;have HW6:=H_ hW6;have HX6:=H_ hx6;have H6:=H_ (h5'.trans0 hf6);have HS6:=H_ (hs5.fr0 hT hf6);have HDR6:=H_ (hdr5.fr0 hf6);have HAP6:=H_ (And.intro hap1 hap2);have HN6:Hid (∀ b,F5 b->F b\/wr.heap.size<=b):=H_ hn5;clear hs5 hdr5 hap1 hap2 h5 hn5 h5' hx6 hf6 hxb hW6)
         | (go_at_call 18;refine (HPL.out (wr.alloc (Obj.cells #[.int .i64 0,.int .i64 0,.slice none 0 0,.slice none 0 0] 30)).drew ((Fr.refl No wr).alloc _).drew).mono ?_;rintro e w5 ⟨v5,F5,rfl,hs5,hd5,h5,hn5⟩
            obtain ⟨e1,f1,e2,f2,rfl,hdr5,hap1,hap2⟩:=hd5;unfold docV;have h5':Fr F wr w5:=(((Fr.refl No wr).alloc _).drew.mono fun _ _ h=>h.elim:Fr F wr (wr.alloc (Obj.cells #[.int .i64 0,.int .i64 0,.slice none 0 0,.slice none 0 0] 30)).drew).trans h5 fun _ _ h=>h;have hnx:¬ F wr.heap.size:=fun h=>absurd (HFL.out _ h) (Nat.lt_irrefl _);have hz5:w5.heap[wr.heap.size]? = some (.cells #[.int .i64 0,.int .i64 0,.slice none 0 0,.slice none 0 0] 30 (0,0)):=h5.heap (show (wr.alloc (Obj.cells #[.int .i64 0,.int .i64 0,.slice none 0 0,.slice none 0 0] 30)).heap[wr.heap.size]? = some (.cells #[.int .i64 0,.int .i64 0,.slice none 0 0,.slice none 0 0] 30 (0,0)) from zad wr _ _ rfl) hnx;obtain ⟨W6,hW6,hx6,_,hzr⟩:=zba (w:=w5) hz5 (.int .i64 D2.rev) (.int .i64 D2.mark) (.slice e1 D2.kvs.length f1) (.slice e2 D2.events.length f2)
            have h6':Fr F wr W6:=h5'.trans hzr fun j hj e=>by
             have e':j=wr.heap.size:=e;omega
            have hn6:∀ b,F5 b->F b\/wr.heap.size+1<=b:=fun b hb=>(hn5 b hb).imp id fun h=>(by simpa [World.drew] using h);have q3:=And.intro (HX.out w5 h5') (HCW.out w5 h5');have q5:=And.intro (HX.out W6 h6') (HCW.out W6 h6');rw [<-hW6] at q5
            have hf5:¬ F5 wr.heap.size:=fun h=>by
             rcases hn6 _ h with h | h
             · exact hnx h
             omega
            obtain ⟨y0,y1,y2,y3⟩:=cells4 hz5;have yf:∀ j,w5.frozen? ⟨wr.heap.size,j,none⟩=false:=fun j=>by simp [World.frozen?,hz5]
            have HS6:Hid (zal TA W6 s S2 F5):=H_ (hs5.fr hT hzr fun b hb e=>hf5 (by have e':b=wr.heap.size:=e;rw [<-e'];exact hb));have HDR6:Hid (DocR W6 D2 (.slice e1 D2.kvs.length f1) (.slice e2 D2.events.length f2)):=H_ ⟨hdr5.kvs.frp hzr fun h0 b hb e=>(by have e':b=wr.heap.size:=e;rw [e'] at hb;exact hdr5.kvs.not4k h0 hb hz5),hdr5.evs.frp hzr fun h0 b hb e=>(by have e':b=wr.heap.size:=e;rw [e'] at hb;exact hdr5.evs.not4 h0 hb hz5)⟩;obtain ⟨xb,hxb⟩:∃ xb,wr.heap.size=xb:=⟨_,rfl⟩;have HXB:=H_ hxb;rw [hxb] at hx6;have HW6:=H_ hW6;have HX6:=H_ hx6;have H6:=H_ h6';have HAP6:=H_ (And.intro hap1 hap2);have HN6:Hid (∀ b,F5 b->F b\/wr.heap.size<=b):=H_ (fun b hb=>(hn6 b hb).imp id fun h=>Nat.le_of_succ_le h);clear hs5 hdr5 hap1 hap2 h5 hn5 h5' hx6 hxb hW6 hzr h6' hn6 hf5 hz5 hnx))
      all_goals
       rw [HW6.out,HXB.out];clear q1 q2 q3 q5 q7 q8;have HSX:=H_ (fun W (hW:Fr No W6 W)=>cells4 (hW.heap HX6.out id));have hrc:=zfx W6.drew s S2 F5 (HS6.out.fr0 hT (Fr.refl No W6).drew);have hmc:=zjm W6.drew s S2 F5 (HS6.out.fr0 hT (Fr.refl No W6).drew);rw [HRV.out] at hrc;rw [HMK.out] at hmc;have HRC:=H_ hrc;have HMC:=H_ hmc;clear hrc hmc;have q1:=HSX.out W6 (Fr.refl No W6);have q2:=HSX.out W6.drew (Fr.refl No W6).drew;go_upto_region 9 with fail
       go_region_held3 (fun W=>W.cell? ⟨xb,0,none⟩=some (.int .i64 D2.rev)/\W.cell? ⟨xb,1,none⟩=some (.int .i64 D2.mark)/\W.cell? ⟨xb,2,none⟩=some (.slice e1 D2.kvs.length f1)/\W.cell? ⟨xb,3,none⟩=some (.slice e2 D2.events.length f2))
        (first | with_reducible exact q1 | with_reducible exact q2)
        (first
          | (go_at_call 19;refine HRC.out.mono ?_;rintro e w7 ⟨rfl,rfl⟩)
          | (go_at_call 20;refine HMC.out.mono ?_;rintro e w7 ⟨rfl,rfl⟩))
       have hd8:Fr No W6 W6.drew:=(Fr.refl No W6).drew;clear q1 q2;generalize W6.drew=W8 at *;have hbn:=(H6.out.trans0 hd8).heap HB.out HNF.out;obtain ⟨Zw,hZ,hz,hzf,hzr⟩:=zba (w:=w) (X:=W8) hbn (.int .i64 D2.rev) (.int .i64 D2.mark) (.slice e1 D2.kvs.length f1) (.slice e2 D2.events.length f2);obtain ⟨y0,y1,y2,y3⟩:=cells4 hbn;have yf:∀ j,W8.frozen? ⟨nb,j,none⟩=false:=fun j=>by simp [World.frozen?,hbn]
       have lyn:=zac hbn;obtain ⟨z0,z1,z2,z3⟩:=HSX.out W8 hd8;have lz:=World.block_lt_of_cell? _ _ z0;have hz6:Fr (fun j=>j=nb) W6 Zw:=(hd8.mono fun _ _ h=>h.elim:Fr (fun j=>j=nb) W6 W8).trans hzr fun _ _ h=>h;have HZ:=H_ hZ;have HZ1:=H_ hz;have HZ6:=H_ hz6;clear hZ hz hzf hzr hz6 hbn hd8;go_wp2;rw [HZ.out];go_roundg g
       case rel =>
        have hnl:nb < wr.heap.size:=zac HB.out
        have hn5:¬ F5 nb:=fun h=>by
         rcases HN6.out nb h with h | h
         · exact HNF.out h
         have h':wr.heap.size<=nb:=h
         omega
        have hwz:Fr No w Zw:=by
         refine (HF.out.trans H6.out fun j hj h=>?_).trans HZ6.out fun j hj h=>?_
         · have:=HN.out j h;omega
         have h':j=nb:=h
         have:=HNW.out;omega
        have hd6:DocR Zw D2 (.slice e1 D2.kvs.length f1) (.slice e2 D2.events.length f2):=⟨HDR6.out.kvs.frp HZ6.out fun h0 b hb e=>(by have e':b=nb:=e;rw [e'] at hb;exact HDR6.out.kvs.not4k h0 hb (H6.out.heap HB.out HNF.out)),HDR6.out.evs.frp HZ6.out fun h0 b hb e=>(by have e':b=nb:=e;rw [e'] at hb;exact HDR6.out.evs.not4 h0 hb (H6.out.heap HB.out HNF.out))⟩;refine ⟨i+1,F5,e1,e2,f1,f2,by go_num,by omega,H_ ?_,H_ ?_,H_ ?_,H_ ?_,H_ hwz,H_ fun b hb=>?_,H_ hn5⟩
        · rw [HS2.out];exact HS6.out.fr hT HZ6.out fun b hb e=>hn5 (by have e':b=nb:=e;rw [<-e'];exact hb)
        · rw [HDD2.out];exact HZ1.out
        · rw [HDD2.out];exact hd6
        · rw [HDD2.out];exact HAP6.out
        rcases HN6.out b hb with h | h
        · exact HN.out b h
        have h':wr.heap.size<=b:=h
        have:=HF.out.size;omega
       case measure=>omega
end Go.Proofs.YthljnnjpmdgkoaaGreat
