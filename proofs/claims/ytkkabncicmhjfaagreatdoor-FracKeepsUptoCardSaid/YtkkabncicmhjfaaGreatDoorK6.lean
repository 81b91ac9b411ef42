/- Parts BookJ, BookK, UpT, Zk0, Seg, Pl8a, Pl8t, Pl8m, Pl8k, Fk1, Fk2, Fk3, Fk4, Awk9, Fk5, joined. -/
import Derived.Test.YtkkabncicmhjfaaGreatDoorK5

open Go renaming Addr → a7, Calls → aQ, Oper → bE, Operand → cR, Program → cO, TypeId → aS, Value → aF, World → a6
open List renaming all_eq_true → gK, append_nil → m7, getD_eq_getElem?_getD → bL, getElem?_drop → nO, getElem?_eq_getElem → cT, getElem?_eq_none → jT, getElem?_eq_some_iff → gU, getElem?_map → jM, getElem_of_mem → wQ, length_append → f8, length_drop → iK, map_cons → jS, map_nil → kR, map_toArray → pE, mem_append → m5, mem_map → m4, mem_of_mem_drop → q9, mem_range → j5, range → eI
open Nat renaming add_zero → fN, le_refl → aU, le_trans → a8, lt_of_lt_of_le → dA, mul_one → eH, zero_add → eR, zero_le → bX
open Option renaming getD_some → nM, map_some → sM
open Option.some renaming inj → kO, injEq → f7
open Or renaming inl → cJ, inr → cN
open Go.Result renaming andThen_ok → fK
open Go.Sem renaming run_bind → cV, run_pure → iH
open Go.Proofs.Tryz renaming prog → aM
open Go.Value renaming slice → qZ
namespace Go.Proofs.YtkkabncicmhjfaaGreatDoor
set_option maxHeartbeats 16000000
set_option maxRecDepth 20000
variable {A A0 A1 A2 A3 A4 A5 AL Aa Aap Aaq Ab Abp Abq Ad Adp Adq Ae Af Ag B Bp Bq C IA NA WA XA:Option a7}{M a b b1 b2 base c c0 c1 c2 c3 c4 c5 cL ca cap cb cd ce cf cg dp dq e g ic im j lb lo' lw m n n0 n1 n2 n3 n4 n5 na nc ne nf ng s wc:Nat}{T t:aS}{bs ms x0 x1 x2 x3 x4 x5 xs ys:List Nat}{es:List ZC}{p q u v x y z:Int}{s0 s1 s2 s3 s4 s5 sa sap saq sb sbp sbq sd sdp sdq se sf:Bool}{u0 vv:aF}{us vs:List aF}{w w':a6}{zs:List Int}
open Go.RowKit
theorem a1n {xn xc nn:Nat}{ls:List Lst}(hB:Bk w g 48 [up XA xn xc,up WA ls.length wc,up NA nn nc])(hW:Own w lw 27 1 WA ls.length wc (ls.map Lst.v))(hal:Ai1 w lb ls 0 0)(hlb:lb≤w.heap.size)(hN:ls.length≤1073741824)(hln:∀a,(ls.getD a Lst.z).n≤1099511620000):aQ aM 48 #[i5 g 0] w (fun e w'=>e= .returned (we)∧UpI lb w w'):=by
 refine bU Tryz.func48 154 J (sr (aE 1 J (aD (sr (aE 1 J (bO ?_))))));refine dC (T:=a6×Nat) (fun⟨wr,i⟩=> [(0,i5 g 0),(3,no i)]) (fun⟨wr,i⟩=>wr) (fun⟨wr,i⟩=>(UpI lb w wr)∧(Bk wr g 48 [up XA xn xc,up WA ls.length wc,up NA nn nc])∧(Own wr lw 27 1 WA ls.length wc (ls.map Lst.v))∧(Ai1 wr lb ls i 0)∧(i≤ls.length)) (fun⟨wr,i⟩=>ls.length-i) (⟨w,0⟩:a6×Nat) ⟨(UpI.refl lb w),hB,hW,hal,(bX _)⟩ J (aP J) ?_;rintro⟨wr,i⟩ ⟨H,hB,hW,hal,hi⟩;refine fW [(0,i5 g 0),(3,no i)] wr J (aP J) (aD (aD ?_));by_cases ao:i<ls.length
 ·refine aK 2 J (pf g 0 J (pf g 1 J (dG hB J (aA (no (ls.length:Nat)) J (aH J (dV i ls.length J) (aG (bC J (bB (aL (aD (bO (aD ?_))))))))))));have en:=hln i;refine aK 1 J (pf g 0 J (pf g 1 J (dG hB J (mv 1 J ?_))));obtain⟨p1,nx,oe⟩:=(hW).atL (i:=i) i9;refine cA sW x8 i p1 nx J (bG (d5 C9 oe) J (aE 1 J (sr (aE 1 J (bO ?_)))));refine dC (T:=a6×Nat) (fun⟨wr,j⟩=> [(0,i5 g 0),(3,no i),(4,up ((ls.getD i Lst.z).A) ((ls.getD i Lst.z).n) ((ls.getD i Lst.z).c)),(5,no j)]) (fun⟨wr,j⟩=>wr) (fun⟨wr,j⟩=>(UpI lb w wr)∧(Bk wr g 48 [up XA xn xc,up WA ls.length wc,up NA nn nc])∧(Own wr lw 27 1 WA ls.length wc (ls.map Lst.v))∧(Ai1 wr lb ls i j)∧(j≤(ls.getD i Lst.z).n)) (fun⟨wr,j⟩=>(ls.getD i Lst.z).n-j) (⟨wr,0⟩:a6×Nat) ⟨H,hB,hW,hal,(bX _)⟩ J (aP J) ?_;rintro⟨wr,j⟩ ⟨H,hB,hW,hal,hj⟩;refine fW [(0,i5 g 0),(3,no i),(4,up ((ls.getD i Lst.z).A) ((ls.getD i Lst.z).n) ((ls.getD i Lst.z).c)),(5,no j)] wr J (aP J) (aD (aD ?_));by_cases ee:j<(ls.getD i Lst.z).n
  ·refine aK 2 J (aA (no ((ls.getD i Lst.z).n:Nat)) J (aH J (dV j ((ls.getD i Lst.z).n) J) (aG (bC J (bB (aL (aD (bO (aK 4 J (dP [no i,no j] (rY) J ?_))))))))));rintro _ v2 ⟨_,rfl,r4,e3⟩;refine dO ?_;have X:UpI lb w v2:=H.then_ext e3;obtain rfl:=r4;refine iF J J (k:=1) (e:=43) [t9 (fM i j:Nat)] ye fun g5 v6 nb=>?_;have oy:=nb.bk;have e8:=nb.ext;clear nb;have G:UpI lb w v6:=X.then_ext e8;refine aA (.agg #[F0,up (some ⟨g5,0,none⟩) 1 1]) J ?_;obtain⟨p9,iy⟩:=((hal.ext (e3.t e8))).addr ao (k:=j) i9;refine cA fI aB.size j p9 iy J (S9 J J J (hal.ext (e3.t e8)) ao i9 oy iy fun ig me av=>?_);have f:UpI lb w ig:=G.trans av;refine cF (bT (aL (aK 1 J (bD J (cK j 1 J) (bS 1 J (cP (⟨ig,j+1⟩:a6×Nat) ⟨f,(av.bk (hB.ext (e3.t e8)) yd),(av.own (hW.ext (e3.t e8)) yd),me,i9⟩ (show (ls.getD i Lst.z).n-(j+1)<(ls.getD i Lst.z).n-j by omega) J (aP J)))))))
  refine aK 2 J (aA (no ((ls.getD i Lst.z).n:Nat)) J (aH J (dQ j ((ls.getD i Lst.z).n) J) (aG (aT J (d9 (cY (d7 (d8 (bT (aL (aK 1 J ?_)))))))))));refine bD J (cK i 1 J) (bS 1 J (cP (⟨wr,i+1⟩:a6×Nat) ⟨H,hB,hW,((hal).next i9),i9⟩ (show ls.length-(i+1)<ls.length-i by omega) J (aP J)))
 have cj:i=ls.length:=by omega
 rw [cj] at hal;have jd:=Ai2.start hal;refine aK 2 J (pf g 0 J (pf g 1 J (dG hB J (aA (no (ls.length:Nat)) J (aH J (dQ i ls.length J) (aG (aT J (d9 (cY (d7 (d8 (aL ?_))))))))))));refine aV 1 J (pf g 0 J (pf g 1 J (dG hB J (aA (no (ls.length:Nat)) J (mT J (k:=ls.length) J J J sW NW J fun F de ar jl az=>?_)))));have jg:w.heap.size≤F:=by rw [←ar];exact H.size
 have cm:∀p,WA=some p→p.block≠F:=fun p hp=>by have:=((hW).block p hp).2;omega
 have pq:g<F:=by rw [←ar];exact hB.lt
 clear ar;have X:UpI lb w de:=H.then_ext az;refine aE 1 J (aD (sr (aE 1 J (bO ?_))));refine dC (T:=a6×Nat×List Lst×List aF) (fun⟨wr,i,gs,gv⟩=> [(0,i5 g 0),(6,up (some ⟨F,0,none⟩) ls.length ls.length),(7,no i)]) (fun⟨wr,i,gs,gv⟩=>wr) (fun⟨wr,i,gs,gv⟩=>(UpI lb w wr)∧(Bk wr g 48 [up XA xn xc,up WA ls.length wc,up NA nn nc])∧(Own wr lw 27 1 WA ls.length wc (ls.map Lst.v))∧(Bk wr F 27 gv)∧(gv.length=ls.length)∧(Ai2 wr lb ls gs)∧(i≤ls.length)∧(∀a,i≤a→gs.getD a Lst.z=ls.getD a Lst.z)∧(∀a,a<i→(gs.getD a Lst.z).n=(ls.getD a Lst.z).n+80)∧(∀a,a<i→a<ls.length→gv.getD a undef= .slice (gs.getD a Lst.z).A (gs.getD a Lst.z).n (gs.getD a Lst.z).c)) (fun⟨wr,i,gs,gv⟩=>ls.length-i) (⟨de,0,ls,_⟩:a6×Nat×List Lst×List aF) ⟨X,(hB.ext az),(hW.ext az),jl,(List.length_replicate),(jd.ext az),(bX _),(fun _ _=>rfl),(fun a ha=>absurd ha (Nat.not_lt_zero _)),(fun a ha=>absurd ha (Nat.not_lt_zero _))⟩ J (aP J) ?_;rintro⟨wr,i,gs,gv⟩ ⟨H,hB,hW,hG,nz,hal,hi,dy,cp,cv⟩;refine fW [(0,i5 g 0),(6,up (some ⟨F,0,none⟩) ls.length ls.length),(7,no i)] wr J (aP J) (aD (aD ?_));by_cases ao:i<ls.length
 ·refine aK 2 J (pf g 0 J (pf g 1 J (dG hB J (aA (no (ls.length:Nat)) J (aH J (dV i ls.length J) (aG (bC J (bB (aL (aD (bO (aD ?_))))))))))));have en:=hln i;refine aK 1 J (pf g 0 J (pf g 1 J (dG hB J (mv 1 J ?_))));obtain⟨fb,fy,gf⟩:=(hW).atL (i:=i) i9;refine cA sW x8 i fb fy J (bG (d5 C9 gf) J (aE 1 J (aD (aD ?_))));have ga:=(dy i (aU _)).symm;refine f9 [(0,i5 g 0),(6,up (some ⟨F,0,none⟩) ls.length ls.length),(7,no i),(51,no i),(52,i5 g 0),(53,i5 g 0),(61,i5 g 0),(62,i5 g 1),(63,up WA ls.length wc),(64,no i),(65,.pointer (some fb)),(66,up ((ls.getD i Lst.z).A) ((ls.getD i Lst.z).n) ((ls.getD i Lst.z).c)),(8,up ((ls.getD i Lst.z).A) ((ls.getD i Lst.z).n) ((ls.getD i Lst.z).c))] (aP J) ?_;rw [ga];refine bH (aE 1 J (bO ?_));refine dC (T:=a6×Nat×List Lst) (fun⟨wr,j,E⟩=> [(0,i5 g 0),(6,up (some ⟨F,0,none⟩) ls.length ls.length),(7,no i),(8,up ((E.getD i Lst.z).A) ((E.getD i Lst.z).n) ((E.getD i Lst.z).c)),(9,no j)]) (fun⟨wr,j,E⟩=>wr) (fun⟨wr,j,E⟩=>(UpI lb w wr)∧(Bk wr g 48 [up XA xn xc,up WA ls.length wc,up NA nn nc])∧(Own wr lw 27 1 WA ls.length wc (ls.map Lst.v))∧(Bk wr F 27 gv)∧(Ai2 wr lb ls E)∧(j≤80)∧(∀a,a≠i→E.getD a Lst.z=gs.getD a Lst.z)∧((E.getD i Lst.z).n=(ls.getD i Lst.z).n+j)) (fun⟨wr,j,E⟩=>80-j) (⟨wr,0,gs⟩:a6×Nat×List Lst) ⟨H,hB,hW,hG,hal,(bX _),(fun _ _=>rfl),(by rw [ga];rfl)⟩ J (aP J) ?_;rintro⟨wr,j,E⟩ ⟨H,hB,hW,hG,hal,hj,ba,nw⟩;refine fW [(0,i5 g 0),(6,up (some ⟨F,0,none⟩) ls.length ls.length),(7,no i),(8,up ((E.getD i Lst.z).A) ((E.getD i Lst.z).n) ((E.getD i Lst.z).c)),(9,no j)] wr J (aP J) (aD (aD ?_));by_cases ee:j<80
  ·refine aK 1 J (aH J (dV j 80 J) (aG (bC J (bB (aL (aD (bO (aK 3 J (aA (no ((E.getD i Lst.z).n:Nat)) J (dP [no i,no ((E.getD i Lst.z).n:Nat)] (rY) J ?_))))))))));rintro _ nt ⟨_,rfl,nu,aj⟩;refine dO ?_;have X:UpI lb w nt:=H.then_ext aj;obtain rfl:=nu;refine iF J J (k:=1) (e:=43) [t9 (fM i ((E.getD i Lst.z).n):Nat)] ye fun bf oq nb=>?_;have fw:=nb.bk;have am:=nb.ext;clear nb;have G:UpI lb w oq:=X.then_ext am;refine aA (.agg #[F0,up (some ⟨bf,0,none⟩) 1 1]) J (iF J J (k:=1) (e:=24) [F0,up (some ⟨bf,0,none⟩) 1 1] ye fun pe ny nb=>?_);have lh:=nb.bk;have ai:=nb.ext;clear nb;have f:UpI lb w ny:=G.then_ext ai;refine SE J J J (hal.ext (aj.t (am.t ai))) (a8 hlb f.size) ao (fw.ext ai) lh i9 yd fun ab ae ib gg ag=>?_;have o:UpI lb w ib:=f.trans ag;refine bS 1 J (bT (aL ?_));have bw:(E.set i ⟨ab,(E.getD i Lst.z).n+1,ae⟩).getD i Lst.z=(⟨ab,(E.getD i Lst.z).n+1,ae⟩:Lst):=mH (by rw [hal.len];exact ao);refine f9 [(0,i5 g 0),(6,up (some ⟨F,0,none⟩) ls.length ls.length),(7,no i),(8,up ((⟨ab,(E.getD i Lst.z).n+1,ae⟩:Lst).A) ((⟨ab,(E.getD i Lst.z).n+1,ae⟩:Lst).n) ((⟨ab,(E.getD i Lst.z).n+1,ae⟩:Lst).c)),(9,no j),(72,no i),(73,up ((E.getD i Lst.z).A) ((E.getD i Lst.z).n) ((E.getD i Lst.z).c)),(74,no ((E.getD i Lst.z).n:Nat)),(75,t9 (fM i ((E.getD i Lst.z).n):Nat)),(76,up (some ⟨bf,0,none⟩) 1 1),(77,.agg #[F0,up (some ⟨bf,0,none⟩) 1 1]),(78,up (some ⟨pe,0,none⟩) 1 1),(79,up ab ((E.getD i Lst.z).n+1) ae)] (aP J) ?_;rw [←bw];refine aK 1 J (bD J (cK j 1 J) (bS 1 J (cP (⟨ib,j+1,E.set i ⟨ab,(E.getD i Lst.z).n+1,ae⟩⟩:a6×Nat×List Lst) ⟨o,(ag.bk (hB.ext (aj.t (am.t ai))) yd),(ag.own (hW.ext (aj.t (am.t ai))) yd),(ag.bk (hG.ext (aj.t (am.t ai))) yd),gg,i9,(fun a ha=>(mI ha).trans (ba a ha)),(by rw [bw];show (E.getD i Lst.z).n+1=_;omega)⟩ (show 80-(j+1)<80-j by omega) J (aP J))))
  have pm:j=80:=by omega
  refine aK 1 J (aH J (dQ j 80 J) (aG (aT J (d9 (cY (d7 (d8 (aL (aK 3 J (cA sW x8 i ⟨F,i,none⟩ (eG _ _) J ?_))))))))));have bu:=hG;refine i0 J J J oN J bu i9 J (gv.set i (up ((E.getD i Lst.z).A) ((E.getD i Lst.z).n) ((E.getD i Lst.z).c))) J fun gb ke bd _=>?_;have X:UpI lb w gb:=H.upd_new bd jg hlb;refine cF (bT (aL (aK 1 J (bD J (cK i 1 J) (bS 1 J (cP (⟨gb,i+1,E,gv.set i (up ((E.getD i Lst.z).A) ((E.getD i Lst.z).n) ((E.getD i Lst.z).c))⟩:a6×Nat×List Lst×List aF) ⟨X,(hB.vN bd),(hW.upd bd cm),ke,(by rw [List.length_set];exact nz),(hal.updT bu yd yd bd),i9,(fun a ha=>(ba a i9).trans (dy a i9)),(fun a ha=>by by_cases e:a=i;(· subst e;rw [nw];omega);(· rw [ba a e];exact cp a i9)),(fun a ha hl=>by by_cases e:a=i;(· subst e;rw [mH i9]);(· rw [mI e,ba a e];exact cv a i9 hl))⟩ (show ls.length-(i+1)<ls.length-i by omega) J (aP J)))))))
 have cj:i=ls.length:=by omega
 rw [cj] at cp cv;refine aK 2 J (pf g 0 J (pf g 1 J (dG hB J (aA (no (ls.length:Nat)) J (aH J (dQ i ls.length J) (aG (aT J (d9 (cY (d7 (d8 (aL ?_))))))))))));refine aD (sr (aE 1 J (bO ?_)));refine dC (T:=a6×Nat) (fun⟨wr,k⟩=> [(0,i5 g 0),(6,up (some ⟨F,0,none⟩) ls.length ls.length),(10,no k)]) (fun⟨wr,k⟩=>wr) (fun⟨wr,k⟩=>(UpI lb w wr)∧(Bk wr g 48 [up XA xn xc,up WA ls.length wc,up NA nn nc])∧(Own wr lw 27 1 WA ls.length wc (ls.map Lst.v))∧(Bk wr F 27 gv)∧(Ai2 wr lb ls gs)∧(k≤ls.length)) (fun⟨wr,k⟩=>ls.length-k) (⟨wr,0⟩:a6×Nat) ⟨H,hB,hW,hG,hal,(bX _)⟩ J (aP J) ?_;rintro⟨wr,k⟩ ⟨H,hB,hW,hG,hal,_⟩;refine fW [(0,i5 g 0),(6,up (some ⟨F,0,none⟩) ls.length ls.length),(10,no k)] wr J (aP J) (aD (aD ?_));by_cases ct:k<ls.length
 ·refine aK 2 J (pf g 0 J (pf g 1 J (dG hB J (aA (no (ls.length:Nat)) J (aH J (dV k ls.length J) (aG (bC J (bB (aL (aD (bO (aD ?_))))))))))));have po:=hln k;have pj:=cp k ct;refine aK 1 J (pf g 0 J (pf g 1 J (dG hB J (mv 1 J ?_))));obtain⟨pd,jq,kg⟩:=(hW).atL (i:=k) i9;refine cA sW x8 k pd jq J (bG (d5 C9 kg) J (aE 1 J (aV 2 J (cA sW x8 k ⟨F,k,none⟩ (eG _ _) J (bG (d5 C9 (by have h:=(hG).cell (i:=k) i9;rw [cv k i9 i9] at h;exact h)) J (aE 1 J (sr (aE 1 J (bO ?_)))))))));refine dC (T:=a6×Nat) (fun⟨wr,j⟩=> [(0,i5 g 0),(6,up (some ⟨F,0,none⟩) ls.length ls.length),(10,no k),(11,up ((ls.getD k Lst.z).A) ((ls.getD k Lst.z).n) ((ls.getD k Lst.z).c)),(12,up ((gs.getD k Lst.z).A) ((gs.getD k Lst.z).n) ((gs.getD k Lst.z).c)),(13,no j)]) (fun⟨wr,j⟩=>wr) (fun⟨wr,j⟩=>(UpI lb w wr)∧(Bk wr g 48 [up XA xn xc,up WA ls.length wc,up NA nn nc])∧(Own wr lw 27 1 WA ls.length wc (ls.map Lst.v))∧(Bk wr F 27 gv)∧(Ai2 wr lb ls gs)∧(j≤(gs.getD k Lst.z).n)) (fun⟨wr,j⟩=>(gs.getD k Lst.z).n-j) (⟨wr,0⟩:a6×Nat) ⟨H,hB,hW,hG,hal,(bX _)⟩ J (aP J) ?_;rintro⟨wr,j⟩ ⟨H,hB,hW,hG,hal,hj⟩;refine fW [(0,i5 g 0),(6,up (some ⟨F,0,none⟩) ls.length ls.length),(10,no k),(11,up ((ls.getD k Lst.z).A) ((ls.getD k Lst.z).n) ((ls.getD k Lst.z).c)),(12,up ((gs.getD k Lst.z).A) ((gs.getD k Lst.z).n) ((gs.getD k Lst.z).c)),(13,no j)] wr J (aP J) (aD (aD ?_));by_cases ee:j<(gs.getD k Lst.z).n
  ·refine aK 2 J (aA (no ((gs.getD k Lst.z).n:Nat)) J (aH J (dV j ((gs.getD k Lst.z).n) J) (aG (bC J (bB (aL (aD (bO (aV 2 J ?_)))))))));obtain⟨ot,V,ja,io,ey,bg⟩:=(hal).atg ct (j:=j) i9;refine cA fI aB.size j ot ja J (bG (ZS ((Ext.refl _).cell io) ((Ext.refl _).cell ey)) J (iL J (z:= .agg #[F0,S0]) (vs:= [F0,S0]) ye J fun aa nl nb=>?_));have gx_g44:wr.heap.size≤aa:=by rw [←nb.at_];exact aU _
   have py:V<aa:=by rw [←nb.at_];exact bg.lt
   have qf:F<aa:=by rw [←nb.at_];exact (hG).lt
   have au:=nb.bk;have ka:w.heap.size≤aa:=by rw [←nb.at_];exact H.size
   have M:=nb.ext;clear nb;have X:UpI lb w nl:=H.then_ext M;refine D3 J J J aB J au (bq J) J [F0,up (some ⟨V,0,none⟩) 1 1] J fun nj bh U _=>?_;have G:UpI lb w nj:=X.upd_new U ka hlb;refine aG (aD (aD ?_));refine dW cM 14 [] [Is (i5 aa 1),Is (up (some ⟨V,0,none⟩) 1 1),Is (no 1),Is (wk),Is (wk),Is (i5 aa 1),Is (up (some ⟨V,0,none⟩) 1 1),Is (.pointer (some (⟨V,0,none⟩))),Is (t9 (fM k j:Nat)),Is (no k),Is (no j),Is (t9 (fM k j:Nat)),Is (wk),Is (wk)] [[],[0],[1],[2],[3],[4],[4,5],[4,6],[4,7],[4],[4],[4,9,10],[4,8,11],[4,12]] rfl (bY J ?_ ?_ ?_ ?_ (bY J ?_ ?_ ?_ ?_ (bY J ?_ ?_ ?_ ?_ (cG J ?_ (cG J ?_ dN))))) ?_
   ·intro ph ov;have f:UpI lb w ph:=G.then_ext ov;exact aC (pf aa 1 J (aI J))
   ·intro oo mx;have f:UpI lb w oo:=G.then_ext mx;exact aO J (aC (dG (bh.ext mx) J (aI J)))
   ·intro oh oa;have f:UpI lb w oh:=G.then_ext oa;exact aO J (aC (aA (no 1) J (aI J)))
   ·intro ou oi;have f:UpI lb w ou:=G.then_ext oi;exact aO J (aC (fP J J J false (aI J)))
   ·intro pg ow;have f:UpI lb w pg:=G.then_ext ow;exact aO J (aC (mv 1 J (aI J)))
   ·intro nk oz;have f:UpI lb w nk:=G.then_ext oz;exact aO J (aC (pf aa 1 J (aI J)))
   ·intro om lv;have f:UpI lb w om:=G.then_ext lv;exact aY J (aC (dG (bh.ext lv) J (aI J)))
   ·intro dz jt;have f:UpI lb w dz:=G.then_ext jt;exact aY J (aC (D7 J J J cH bZ 0 J yd ⟨V,0,none⟩ (eG _ _) yd (aI J)))
   ·intro lj br;have f:UpI lb w lj:=G.then_ext br;exact aY J (aC (bG (cE dK (((bg.ext M).vN U).ext br) J) J (aI J)))
   ·intro gx fj;have f:UpI lb w gx:=G.then_ext fj;exact aO J (aC (mv 1 J (aI J)))
   ·intro ez jw;have f:UpI lb w ez:=G.then_ext jw;exact aO J (aC (mv 1 J (aI J)))
   ·intro mb jj;have f:UpI lb w mb:=G.then_ext jj;refine aY J (aO J (aC (dP [no k,no j] (rY) J ?_)));rintro _ jh ⟨_,rfl,lp,bm⟩;refine dO ?_;have o:UpI lb w jh:=f.then_ext bm;obtain rfl:=lp;exact bQ J bm rfl
   ·intro mz ma;have f:UpI lb w mz:=G.then_ext ma;exact aY J (aO J (aC (aH J (lW (fM k j) (fM k j) J) (aI J))))
   ·intro lu fp;have f:UpI lb w lu:=G.then_ext fp;exact aY J (aC (aA (wk) J (aI J)))
   intro nh I;have f:UpI lb w nh:=G.then_ext I;refine d6 J (d6 J (d6 J (aY J ?_)));refine aC (cF (dM (aL (aT J (bB (aL (aD ?_)))))));by_cases qe:j<(ls.getD k Lst.z).n
   ·obtain⟨L,W,ak,_,aq,cz⟩:=((hal.ext ((U.ext M gx_g44).trans I))).atx ct (j:=j) i9;refine dW cM 26 [] [Is (no j),Is (up ((ls.getD k Lst.z).A) ((ls.getD k Lst.z).n) ((ls.getD k Lst.z).c)),Is (no ((ls.getD k Lst.z).n:Nat)),Is (we),Is (we),Is (up ((ls.getD k Lst.z).A) ((ls.getD k Lst.z).n) ((ls.getD k Lst.z).c)),Is (no j),Is (.pointer (some L)),Is (.pointer (some (L.add 1))),Is (up (some ⟨W,0,none⟩) 1 1),Is (no 1),Is (wk),Is (wk),Is (up ((ls.getD k Lst.z).A) ((ls.getD k Lst.z).n) ((ls.getD k Lst.z).c)),Is (no j),Is (.pointer (some L)),Is (.pointer (some (L.add 1))),Is (up (some ⟨W,0,none⟩) 1 1),Is (.pointer (some (⟨W,0,none⟩))),Is (t9 (fM k j:Nat)),Is (no k),Is (no j),Is (t9 (fM k j:Nat)),Is (wk),Is (wk),Is (wk)] [[],[],[1],[0,2],[3],[4],[4],[4,5,6],[4,7],[4,8],[4,9],[4,10],[4,11],[12],[12],[12,13,14],[12,15],[12,16],[12,17],[12,18],[12],[12],[12,20,21],[12,19,22],[4,12,23],[4,24]] rfl (bY J ?_ ?_ ?_ ?_ (bY J ?_ ?_ ?_ ?_ (bY J ?_ ?_ ?_ ?_ (bY J ?_ ?_ ?_ ?_ (bY J ?_ ?_ ?_ ?_ (bY J ?_ ?_ ?_ ?_ (cG J ?_ (cG J ?_ dN)))))))) ?_
    ·intro mh mi;have o:UpI lb w mh:=f.then_ext mi;exact aC (mv 1 J (aI J))
    ·intro jv mc;have o:UpI lb w jv:=f.then_ext mc;exact aC (mv 1 J (aI J))
    ·intro kk ei;have o:UpI lb w kk:=f.then_ext ei;exact aO J (aC (aA (no ((ls.getD k Lst.z).n:Nat)) J (aI J)))
    ·intro kv my;have o:UpI lb w kv:=f.then_ext my;exact aY J (aC (aH J (dV j ((ls.getD k Lst.z).n) J) (aI J)))
    ·intro gk eh;have o:UpI lb w gk:=f.then_ext eh;exact aO J (aC (mv 1 J (aI J)))
    ·intro mq il;have o:UpI lb w mq:=f.then_ext il;exact aO J (aC (mv 1 J (aI J)))
    ·intro md gj;have o:UpI lb w md:=f.then_ext gj;exact aO J (aC (mv 1 J (aI J)))
    ·intro iu iq;have o:UpI lb w iu:=f.then_ext iq;exact aY J (aO J (aC (cA fI aB.size j L ak J (aI J))))
    ·intro go lm;have o:UpI lb w go:=f.then_ext lm;exact aY J (aC (aA (.pointer (some (L.add 1))) J (aI J)))
    ·intro du bp;have o:UpI lb w du:=f.then_ext bp;refine aY J (aC (bG (d5 ye (bp.cell aq)) J ?_));exact aI rfl
    ·intro ji iz;have o:UpI lb w ji:=f.then_ext iz;exact aY J (aC (aA (no 1) J (aI J)))
    ·intro ia ki;have o:UpI lb w ia:=f.then_ext ki;exact aY J (aC (fP J J J false (aI J)))
    ·intro fg ir;have o:UpI lb w fg:=f.then_ext ir;exact aY J (aC (mv 1 J (aI J)))
    ·intro iw mu;have o:UpI lb w iw:=f.then_ext mu;exact aO J (aC (mv 1 J (aI J)))
    ·intro kd dm;have o:UpI lb w kd:=f.then_ext dm;exact aO J (aC (mv 1 J (aI J)))
    ·intro dr fq;have o:UpI lb w dr:=f.then_ext fq;exact aY J (aO J (aC (cA fI aB.size j L ak J (aI J))))
    ·intro kj dl;have o:UpI lb w kj:=f.then_ext dl;exact aY J (aC (aA (.pointer (some (L.add 1))) J (aI J)))
    ·intro jb bi;have o:UpI lb w jb:=f.then_ext bi;refine aY J (aC (bG (d5 ye (bi.cell aq)) J ?_));exact aI rfl
    ·intro fx ej;have o:UpI lb w fx:=f.then_ext ej;exact aY J (aC (D7 J J J cH bZ 0 J yd ⟨W,0,none⟩ (eG _ _) yd (aI J)))
    ·intro mg ci;have o:UpI lb w mg:=f.then_ext ci;exact aY J (aC (bG (cE dK (cz.ext ci) J) J (aI J)))
    ·intro fa jr;have o:UpI lb w fa:=f.then_ext jr;exact aO J (aC (mv 1 J (aI J)))
    ·intro df kf;have o:UpI lb w df:=f.then_ext kf;exact aO J (aC (mv 1 J (aI J)))
    ·intro fc kb;have o:UpI lb w fc:=f.then_ext kb;refine aY J (aO J (aC (dP [no k,no j] (rY) J ?_)));rintro _ dx ⟨_,rfl,jm,bj⟩;refine dO ?_;have qh:UpI lb w dx:=o.then_ext bj;obtain rfl:=jm;exact bQ J bj rfl
    ·intro jc gi;have o:UpI lb w jc:=f.then_ext gi;exact aY J (aO J (aC (aH J (lW (fM k j) (fM k j) J) (aI J))))
    ·intro fv kq;have o:UpI lb w fv:=f.then_ext kq;exact aY J (aO J (aC (aA (wk) J (aI J))))
    ·intro kw ef;have o:UpI lb w kw:=f.then_ext ef;exact aY J (aC (aA (wk) J (aI J)))
    intro bo Z;have o:UpI lb w bo:=f.then_ext Z;refine d6 J (d6 J (d6 J (aY J ?_)));refine d6 J (d6 J (d6 J (aC (cF ?_))));refine dM (aL (aT J (bB (bT (aL (aK 1 J (bD J (cK j 1 J) (bS 1 J (cP (⟨bo,j+1⟩:a6×Nat) ⟨o,(((hB.ext M).vN U).ext (I.t Z)),(((hW.ext M).updT au yd U).ext (I.t Z)),(((hG.ext M).vN U).ext (I.t Z)),(hal.ext (((U.ext M gx_g44).trans I).trans Z)),i9⟩ (show (gs.getD k Lst.z).n-(j+1)<(gs.getD k Lst.z).n-j by omega) J (aP J))))))))))
   refine dW cM 26 [] [Is (no j),Is (up ((ls.getD k Lst.z).A) ((ls.getD k Lst.z).n) ((ls.getD k Lst.z).c)),Is (no ((ls.getD k Lst.z).n:Nat)),Is (wk),Is (wk),Is (undef),Is (undef),Is (undef),Is (undef),Is (undef),Is (undef),Is (undef),Is (undef),Is (undef),Is (undef),Is (undef),Is (undef),Is (undef),Is (undef),Is (undef),Is (undef),Is (undef),Is (undef),Is (undef),Is (undef),Is (wk)] [[],[],[1],[0,2],[3],[4],[4],[4,5,6],[4,7],[4,8],[4,9],[4,10],[4,11],[12],[12],[12,13,14],[12,15],[12,16],[12,17],[12,18],[12],[12],[12,20,21],[12,19,22],[4,12,23],[4,24]] rfl (bY J ?_ ?_ ?_ ?_ (bY J ?_ ?_ ?_ ?_ (bY J ?_ ?_ ?_ ?_ (bY J ?_ ?_ ?_ ?_ (bY J ?_ ?_ ?_ ?_ (bY J ?_ ?_ ?_ ?_ (cG J ?_ (cG J ?_ dN)))))))) ?_
   ·intro ge dw;have o:UpI lb w ge:=f.then_ext dw;exact aC (mv 1 J (aI J))
   ·intro mj fz;have o:UpI lb w mj:=f.then_ext fz;exact aC (mv 1 J (aI J))
   ·intro da fe;have o:UpI lb w da:=f.then_ext fe;exact aO J (aC (aA (no ((ls.getD k Lst.z).n:Nat)) J (aI J)))
   ·intro jp ie;have o:UpI lb w jp:=f.then_ext ie;exact aY J (aC (aH J (dQ j ((ls.getD k Lst.z).n) J) (aI J)))
   ·intro ft ij;have o:UpI lb w ft:=f.then_ext ij;exact aO J (aC (mv 1 J (aI J)))
   ·intro mp fi;have o:UpI lb w mp:=f.then_ext fi;exact aO J (aC (mv 1 J (aI J)))
   ·intro mw kx;have o:UpI lb w mw:=f.then_ext kx;exact aO J (aC (mv 1 J (aI J)))
   ·intro dg mf;have o:UpI lb w dg:=f.then_ext mf;exact aY J (aO J (aC (mv 1 J (aI J))))
   ·intro ky ju;have o:UpI lb w ky:=f.then_ext ju;exact aY J (aC (mv 1 J (aI J)))
   ·intro kc jk;have o:UpI lb w kc:=f.then_ext jk;exact aY J (aC (mv 1 J (aI J)))
   ·intro ko fh;have o:UpI lb w ko:=f.then_ext fh;exact aY J (aC (mv 1 J (aI J)))
   ·intro fm kp;have o:UpI lb w fm:=f.then_ext kp;exact aY J (aC (mv 1 J (aI J)))
   ·intro fo jx;have o:UpI lb w fo:=f.then_ext jx;exact aY J (aC (mv 1 J (aI J)))
   ·intro ks mo;have o:UpI lb w ks:=f.then_ext mo;exact aO J (aC (mv 1 J (aI J)))
   ·intro kr em;have o:UpI lb w kr:=f.then_ext em;exact aO J (aC (mv 1 J (aI J)))
   ·intro dh dt;have o:UpI lb w dh:=f.then_ext dt;exact aY J (aO J (aC (mv 1 J (aI J))))
   ·intro ni ew;have o:UpI lb w ni:=f.then_ext ew;exact aY J (aC (mv 1 J (aI J)))
   ·intro kt jf;have o:UpI lb w kt:=f.then_ext jf;exact aY J (aC (mv 1 J (aI J)))
   ·intro el mr;have o:UpI lb w el:=f.then_ext mr;exact aY J (aC (mv 1 J (aI J)))
   ·intro fk jz;have o:UpI lb w fk:=f.then_ext jz;exact aY J (aC (mv 1 J (aI J)))
   ·intro ll ku;have o:UpI lb w ll:=f.then_ext ku;exact aO J (aC (mv 1 J (aI J)))
   ·intro ix kn;have o:UpI lb w ix:=f.then_ext kn;exact aO J (aC (mv 1 J (aI J)))
   ·intro gy je;have o:UpI lb w gy:=f.then_ext je;exact aY J (aO J (aC (mv 1 J (aI J))))
   ·intro ik eg;have o:UpI lb w ik:=f.then_ext eg;exact aY J (aO J (aC (mv 1 J (aI J))))
   ·intro mn kz;have o:UpI lb w mn:=f.then_ext kz;exact aY J (aO J (aC (mv 1 J (aI J))))
   ·intro mt jo;have o:UpI lb w mt:=f.then_ext jo;exact aY J (aC (aA (wk) J (aI J)))
   intro ch Y;have o:UpI lb w ch:=f.then_ext Y;refine d6 J (d6 J (d6 J (aY J ?_)));refine d6 J (d6 J (d6 J (aC (cF ?_))));refine dM (aL (aT J (bB (bT (aL (aK 1 J (bD J (cK j 1 J) (bS 1 J (cP (⟨ch,j+1⟩:a6×Nat) ⟨o,(((hB.ext M).vN U).ext (I.t Y)),(((hW.ext M).updT au yd U).ext (I.t Y)),(((hG.ext M).vN U).ext (I.t Y)),(hal.ext (((U.ext M gx_g44).trans I).trans Y)),i9⟩ (show (gs.getD k Lst.z).n-(j+1)<(gs.getD k Lst.z).n-j by omega) J (aP J))))))))))
  refine aK 2 J (aA (no ((gs.getD k Lst.z).n:Nat)) J (aH J (dQ j ((gs.getD k Lst.z).n) J) (aG (aT J (d9 (cY (d7 (d8 (bT (aL (aK 1 J ?_)))))))))));refine bD J (cK k 1 J) (bS 1 J (cP (⟨wr,k+1⟩:a6×Nat) ⟨H,hB,hW,hG,hal,i9⟩ (show ls.length-(k+1)<ls.length-k by omega) J (aP J)))
 refine aK 2 J (pf g 0 J (pf g 1 J (dG hB J (aA (no (ls.length:Nat)) J (aH J (dQ k ls.length J) (aG (aT J (d9 (cY (d7 (d8 (aL ?_))))))))))));refine sr (aE 1 J (bA (aZ [we] J ⟨rfl,xl⟩ ?_)));exact⟨rfl,H⟩
theorem a0Z {nm:Nat}{ls:List Lst}(hB:Bk w g 48 [up WA ls.length wc,up IA im ic,up NA nm nc])(hW:Own w lw 22 1 WA ls.length wc (ls.map Lst.v))(hal:Al0 w lb ls)(hlb:lb≤w.heap.size)(hN:ls.length≤1073741824)(hln:∀a,(ls.getD a Lst.z).n≤1099511620000):aQ aM 47 #[i5 g 0] w (fun e w'=>e= .returned (we)∧UpU lb w w'):=by
 refine bU Tryz.func47 99 J (sr (aE 1 J (aD (sr (aE 1 J (bO ?_))))));refine dC (T:=a6×Nat) (fun⟨wr,i⟩=> [(0,i5 g 0),(3,no i)]) (fun⟨wr,i⟩=>wr) (fun⟨wr,i⟩=>(UpU lb w wr)∧(Bk wr g 48 [up WA ls.length wc,up IA im ic,up NA nm nc])∧(Own wr lw 22 1 WA ls.length wc (ls.map Lst.v))∧(Al1 wr lb ls i 0)∧(i≤ls.length)) (fun⟨wr,i⟩=>ls.length-i) (⟨w,0⟩:a6×Nat) ⟨(UpU.refl lb w),hB,hW,hal,(bX _)⟩ J (aP J) ?_;rintro⟨wr,i⟩ ⟨o,hB,hW,hal,hi⟩;refine fW [(0,i5 g 0),(3,no i)] wr J (aP J) (aD (aD ?_));by_cases X:i<ls.length
 ·refine aK 2 J (pf g 0 J (pf g 0 J (dG hB J (aA (no (ls.length:Nat)) J (aH J (dV i ls.length J) (aG (bC J (bB (aL (aD (bO (aD ?_))))))))))));have br:=hln i;refine aK 1 J (pf g 0 J (pf g 0 J (dG hB J (mv 1 J ?_))));obtain⟨p1,ei,fe⟩:=(hW).atL (i:=i) i9;refine cA mU oN i p1 ei J (bG (d5 sH fe) J (aE 1 J (sr (aE 1 J (bO ?_)))));refine dC (T:=a6×Nat) (fun⟨wr,j⟩=> [(0,i5 g 0),(3,no i),(4,up ((ls.getD i Lst.z).A) ((ls.getD i Lst.z).n) ((ls.getD i Lst.z).c)),(5,no j)]) (fun⟨wr,j⟩=>wr) (fun⟨wr,j⟩=>(UpU lb w wr)∧(Bk wr g 48 [up WA ls.length wc,up IA im ic,up NA nm nc])∧(Own wr lw 22 1 WA ls.length wc (ls.map Lst.v))∧(Al1 wr lb ls i j)∧(j≤(ls.getD i Lst.z).n)) (fun⟨wr,j⟩=>(ls.getD i Lst.z).n-j) (⟨wr,0⟩:a6×Nat) ⟨o,hB,hW,hal,(bX _)⟩ J (aP J) ?_;rintro⟨wr,j⟩ ⟨o,hB,hW,hal,hj⟩;refine fW [(0,i5 g 0),(3,no i),(4,up ((ls.getD i Lst.z).A) ((ls.getD i Lst.z).n) ((ls.getD i Lst.z).c)),(5,no j)] wr J (aP J) (aD (aD ?_));by_cases du:j<(ls.getD i Lst.z).n
  ·refine aK 2 J (aA (no ((ls.getD i Lst.z).n:Nat)) J (aH J (dV j ((ls.getD i Lst.z).n) J) (aG (bC J (bB (aL (aD (bO (aK 4 J (dP [no i,no j] (rY) J ?_))))))))));rintro _ v2 ⟨_,rfl,r4,e3⟩;refine dO ?_;have E:UpU lb w v2:=o.then_ext e3;obtain rfl:=r4;obtain⟨p5,ct⟩:=((hal.ext e3)).addr X (k:=j) i9;refine cA cH bZ j p5 ct J (SA J J J (hal.ext e3) X i9 ct fun v6 dz am=>?_);have W:UpU lb w v6:=E.trans am;refine cF (bT (aL (aK 1 J (bD J (cK j 1 J) (bS 1 J (cP (⟨v6,j+1⟩:a6×Nat) ⟨W,(am.bk (hB.ext e3) yd),(am.own (hW.ext e3) yd),dz,i9⟩ (show (ls.getD i Lst.z).n-(j+1)<(ls.getD i Lst.z).n-j by omega) J (aP J)))))))
  refine aK 2 J (aA (no ((ls.getD i Lst.z).n:Nat)) J (aH J (dQ j ((ls.getD i Lst.z).n) J) (aG (aT J (d9 (cY (d7 (d8 (bT (aL (aK 1 J ?_)))))))))));refine bD J (cK i 1 J) (bS 1 J (cP (⟨wr,i+1⟩:a6×Nat) ⟨o,hB,hW,((hal).next i9),i9⟩ (show ls.length-(i+1)<ls.length-i by omega) J (aP J)))
 have ao:i=ls.length:=by omega
 rw [ao] at hal;have ba:=Al2.start hal;refine aK 2 J (pf g 0 J (pf g 0 J (dG hB J (aA (no (ls.length:Nat)) J (aH J (dQ i ls.length J) (aG (aT J (d9 (cY (d7 (d8 (aL ?_))))))))))));refine aV 1 J (pf g 0 J (pf g 0 J (dG hB J (aA (no (ls.length:Nat)) J (mT J (k:=ls.length) J J J Tryz.underlying36 xZ J fun F df V de ab=>?_)))));have bo:w.heap.size≤F:=by rw [←V];exact o.size
 have ar:∀p,WA=some p→p.block≠F:=fun p hp=>by have:=((hW).block p hp).2;omega
 have fw:g<F:=by rw [←V];exact hB.lt
 clear V;have E:UpU lb w df:=o.then_ext ab;refine aE 1 J (aD (sr (aE 1 J (bO ?_))));refine dC (T:=a6×Nat×List Lst×List aF) (fun⟨wr,i,gs,gv⟩=> [(0,i5 g 0),(6,up (some ⟨F,0,none⟩) ls.length ls.length),(7,no i)]) (fun⟨wr,i,gs,gv⟩=>wr) (fun⟨wr,i,gs,gv⟩=>(UpU lb w wr)∧(Bk wr g 48 [up WA ls.length wc,up IA im ic,up NA nm nc])∧(Own wr lw 22 1 WA ls.length wc (ls.map Lst.v))∧(Bk wr F 22 gv)∧(gv.length=ls.length)∧(Al2 wr lb ls gs)∧(i≤ls.length)∧(∀a,i≤a→gs.getD a Lst.z=ls.getD a Lst.z)∧(∀a,a<i→(gs.getD a Lst.z).n=(ls.getD a Lst.z).n+80)∧(∀a,a<i→a<ls.length→gv.getD a undef= .slice (gs.getD a Lst.z).A (gs.getD a Lst.z).n (gs.getD a Lst.z).c)) (fun⟨wr,i,gs,gv⟩=>ls.length-i) (⟨df,0,ls,_⟩:a6×Nat×List Lst×List aF) ⟨E,(hB.ext ab),(hW.ext ab),de,(List.length_replicate),(ba.ext ab),(bX _),(fun _ _=>rfl),(fun a Z=>absurd Z (Nat.not_lt_zero _)),(fun a Z=>absurd Z (Nat.not_lt_zero _))⟩ J (aP J) ?_;rintro⟨wr,i,gs,gv⟩ ⟨o,hB,hW,hG,fa,hal,hi,bd,aq,av⟩;refine fW [(0,i5 g 0),(6,up (some ⟨F,0,none⟩) ls.length ls.length),(7,no i)] wr J (aP J) (aD (aD ?_));by_cases X:i<ls.length
 ·refine aK 2 J (pf g 0 J (pf g 0 J (dG hB J (aA (no (ls.length:Nat)) J (aH J (dV i ls.length J) (aG (bC J (bB (aL (aD (bO (aD ?_))))))))))));have br:=hln i;refine aK 1 J (pf g 0 J (pf g 0 J (dG hB J (mv 1 J ?_))));obtain⟨ez,aw,cj⟩:=(hW).atL (i:=i) i9;refine cA mU oN i ez aw J (bG (d5 sH cj) J (aE 1 J (aD (aD ?_))));have cv:=(bd i (aU _)).symm;refine f9 [(0,i5 g 0),(6,up (some ⟨F,0,none⟩) ls.length ls.length),(7,no i),(45,no i),(46,i5 g 0),(47,i5 g 0),(48,i5 g 0),(49,up WA ls.length wc),(50,no (ls.length:Nat)),(51,we),(8,up ((ls.getD i Lst.z).A) ((ls.getD i Lst.z).n) ((ls.getD i Lst.z).c))] (aP J) ?_;rw [cv];refine bH (aE 1 J (bO ?_));refine dC (T:=a6×Nat×List Lst) (fun⟨wr,j,f⟩=> [(0,i5 g 0),(6,up (some ⟨F,0,none⟩) ls.length ls.length),(7,no i),(8,up ((f.getD i Lst.z).A) ((f.getD i Lst.z).n) ((f.getD i Lst.z).c)),(9,no j)]) (fun⟨wr,j,f⟩=>wr) (fun⟨wr,j,f⟩=>(UpU lb w wr)∧(Bk wr g 48 [up WA ls.length wc,up IA im ic,up NA nm nc])∧(Own wr lw 22 1 WA ls.length wc (ls.map Lst.v))∧(Bk wr F 22 gv)∧(Al2 wr lb ls f)∧(j≤80)∧(∀a,a≠i→f.getD a Lst.z=gs.getD a Lst.z)∧((f.getD i Lst.z).n=(ls.getD i Lst.z).n+j)) (fun⟨wr,j,f⟩=>80-j) (⟨wr,0,gs⟩:a6×Nat×List Lst) ⟨o,hB,hW,hG,hal,(bX _),(fun _ _=>rfl),(by rw [cv];rfl)⟩ J (aP J) ?_;rintro⟨wr,j,f⟩ ⟨o,hB,hW,hG,hal,hj,ae,ef⟩;refine fW [(0,i5 g 0),(6,up (some ⟨F,0,none⟩) ls.length ls.length),(7,no i),(8,up ((f.getD i Lst.z).A) ((f.getD i Lst.z).n) ((f.getD i Lst.z).c)),(9,no j)] wr J (aP J) (aD (aD ?_));by_cases du:j<80
  ·refine aK 1 J (aH J (dV j 80 J) (aG (bC J (bB (aL (aD (bO (aK 3 J (aA (no ((f.getD i Lst.z).n:Nat)) J (dP [no i,no ((f.getD i Lst.z).n:Nat)] (rY) J ?_))))))))));rintro _ ey ⟨_,rfl,dw,Y⟩;refine dO ?_;have E:UpU lb w ey:=o.then_ext Y;obtain rfl:=dw;refine iF J J (k:=1) (e:=43) [t9 (fM i ((f.getD i Lst.z).n):Nat)] ye fun _ dt nb=>?_;have bm:=nb.bk;have M:=nb.ext;clear nb;have W:UpU lb w dt:=E.then_ext M;refine SF J J J (hal.ext (Y.t M)) (a8 hlb W.size) X bm i9 yd fun L I bw ci H=>?_;have fj:UpU lb w bw:=W.trans H;refine bS 1 J (bT (aL ?_));have ak:(f.set i ⟨L,(f.getD i Lst.z).n+1,I⟩).getD i Lst.z=(⟨L,(f.getD i Lst.z).n+1,I⟩:Lst):=mH (by rw [hal.len];exact X);refine f9 [(0,i5 g 0),(6,up (some ⟨F,0,none⟩) ls.length ls.length),(7,no i),(8,up ((⟨L,(f.getD i Lst.z).n+1,I⟩:Lst).A) ((⟨L,(f.getD i Lst.z).n+1,I⟩:Lst).n) ((⟨L,(f.getD i Lst.z).n+1,I⟩:Lst).c)),(9,no j),(61,no j),(62,we)] (aP J) ?_;rw [←ak];refine aK 1 J (bD J (cK j 1 J) (bS 1 J (cP (⟨bw,j+1,f.set i ⟨L,(f.getD i Lst.z).n+1,I⟩⟩:a6×Nat×List Lst) ⟨fj,(H.bk (hB.ext (Y.t M)) yd),(H.own (hW.ext (Y.t M)) yd),(H.bk (hG.ext (Y.t M)) yd),ci,i9,(fun a Z=>(mI Z).trans (ae a Z)),(by rw [ak];show (f.getD i Lst.z).n+1=_;omega)⟩ (show 80-(j+1)<80-j by omega) J (aP J))))
  have fm:j=80:=by omega
  refine aK 1 J (aH J (dQ j 80 J) (aG (aT J (d9 (cY (d7 (d8 (aL (aK 3 J (cA mU oN i ⟨F,i,none⟩ (eG _ _) J ?_))))))))));have aj:=hG;refine i0 J J J oN J aj i9 J (gv.set i (up ((f.getD i Lst.z).A) ((f.getD i Lst.z).n) ((f.getD i Lst.z).c))) J fun cp da aa _=>?_;have E:UpU lb w cp:=o.upd_new aa bo hlb;refine cF (bT (aL (aK 1 J (bD J (cK i 1 J) (bS 1 J (cP (⟨cp,i+1,f,gv.set i (up ((f.getD i Lst.z).A) ((f.getD i Lst.z).n) ((f.getD i Lst.z).c))⟩:a6×Nat×List Lst×List aF) ⟨E,(hB.vN aa),(hW.upd aa ar),da,(by rw [List.length_set];exact fa),(hal.updT aj yd aa),i9,(fun a Z=>(ae a i9).trans (bd a i9)),(fun a Z=>by by_cases e:a=i;(· subst e;rw [ef];omega);(· rw [ae a e];exact aq a i9)),(fun a Z hl=>by by_cases e:a=i;(· subst e;rw [mH i9]);(· rw [mI e,ae a e];exact av a i9 hl))⟩ (show ls.length-(i+1)<ls.length-i by omega) J (aP J)))))))
 have ao:i=ls.length:=by omega
 rw [ao] at aq av;refine aK 2 J (pf g 0 J (pf g 0 J (dG hB J (aA (no (ls.length:Nat)) J (aH J (dQ i ls.length J) (aG (aT J (d9 (cY (d7 (d8 (aL ?_))))))))))));refine aD (sr (aE 1 J (bO ?_)));refine dC (T:=a6×Nat) (fun⟨wr,k⟩=> [(0,i5 g 0),(6,up (some ⟨F,0,none⟩) ls.length ls.length),(10,no k)]) (fun⟨wr,k⟩=>wr) (fun⟨wr,k⟩=>(UpU lb w wr)∧(Bk wr g 48 [up WA ls.length wc,up IA im ic,up NA nm nc])∧(Own wr lw 22 1 WA ls.length wc (ls.map Lst.v))∧(Bk wr F 22 gv)∧(Al2 wr lb ls gs)∧(k≤ls.length)) (fun⟨wr,k⟩=>ls.length-k) (⟨wr,0⟩:a6×Nat) ⟨o,hB,hW,hG,hal,(bX _)⟩ J (aP J) ?_;rintro⟨wr,k⟩ ⟨o,hB,hW,hG,hal,_⟩;refine fW [(0,i5 g 0),(6,up (some ⟨F,0,none⟩) ls.length ls.length),(10,no k)] wr J (aP J) (aD (aD ?_));by_cases au:k<ls.length
 ·refine aK 2 J (pf g 0 J (pf g 0 J (dG hB J (aA (no (ls.length:Nat)) J (aH J (dV k ls.length J) (aG (bC J (bB (aL (aD (bO (aD ?_))))))))))));have fo:=hln k;have fk:=aq k au;obtain⟨ch,bf,az⟩:=(hW).atL (i:=k) i9;refine dW cM 14 [] [Is (no k),Is (i5 g 0),Is (i5 g 0),Is (i5 g 0),Is (up WA ls.length wc),Is (no k),Is (.pointer (some ch)),Is (up ((ls.getD k Lst.z).A) ((ls.getD k Lst.z).n) ((ls.getD k Lst.z).c)),Is (up (some ⟨F,0,none⟩) ls.length ls.length),Is (no k),Is (.pointer (some (⟨F,k,none⟩))),Is (up ((gs.getD k Lst.z).A) ((gs.getD k Lst.z).n) ((gs.getD k Lst.z).c)),Is (we),Is (wk)] [[],[],[1],[2],[3],[],[4,5],[6],[],[],[8,9],[10],[0,7,11],[12]] rfl (bY J ?_ ?_ ?_ ?_ (bY J ?_ ?_ ?_ ?_ (bY J ?_ ?_ ?_ ?_ (cG J ?_ (cG J ?_ dN))))) ?_
  ·intro fh fg;have E:UpU lb w fh:=o.then_ext fg;exact aC (mv 1 J (aI J))
  ·intro fd ew;have E:UpU lb w fd:=o.then_ext ew;exact aC (mv 1 J (aI J))
  ·intro eg dm;have E:UpU lb w eg:=o.then_ext dm;exact aO J (aC (pf g 0 J (aI J)))
  ·intro em fi;have E:UpU lb w em:=o.then_ext fi;exact aO J (aC (pf g 0 J (aI J)))
  ·intro dh bp;have E:UpU lb w dh:=o.then_ext bp;exact aO J (aC (dG (hB.ext bp) J (aI J)))
  ·intro dx dy;have E:UpU lb w dx:=o.then_ext dy;exact aC (mv 1 J (aI J))
  ·intro ee fc;have E:UpU lb w ee:=o.then_ext fc;exact aY J (aC (cA mU oN k ch bf J (aI J)))
  ·intro dg cz;have E:UpU lb w dg:=o.then_ext cz;exact aO J (aC (bG (d5 sH (cz.cell az)) J (aI J)))
  ·intro en dl;have E:UpU lb w en:=o.then_ext dl;exact aC (mv 1 J (aI J))
  ·intro eh fb;have E:UpU lb w eh:=o.then_ext fb;exact aC (mv 1 J (aI J))
  ·intro dr el;have E:UpU lb w dr:=o.then_ext el;exact aY J (aC (cA mU oN k ⟨F,k,none⟩ (eG _ _) J (aI J)))
  ·intro ej eP;have E:UpU lb w ej:=o.then_ext eP;exact aO J (aC (bG (d5 sH (by have h:=((hG.ext eP)).cell (i:=k) i9;rw [av k i9 i9] at h;exact h)) J (aI J)))
  ·intro cm U;have E:UpU lb w cm:=o.then_ext U;refine aY J (aO J (aC (dP [no k,up ((ls.getD k Lst.z).A) ((ls.getD k Lst.z).n) ((ls.getD k Lst.z).c),up ((gs.getD k Lst.z).A) ((gs.getD k Lst.z).n) ((gs.getD k Lst.z).c)] (a1o i9 ((hal.ext U).rd1 au hN i9) ((hal.ext U).rd2 au hN i9) i9 i9) J ?_)));rintro _ bu ⟨_,rfl,bj,ag⟩;refine dO ?_;have W:UpU lb w bu:=E.then_ext ag;obtain rfl:=bj;exact bQ J ag rfl
  ·intro bh bg;have E:UpU lb w bh:=o.then_ext bg;exact aO J (aC (aA (wk) J (aI J)))
  intro ah G;have E:UpU lb w ah:=o.then_ext G;refine d6 J (d6 J (d6 J (aY J ?_)));refine aC (cF (dM (aL (aT J (bB (bT (aL (aK 1 J (bD J (cK k 1 J) (bS 1 J (cP (⟨ah,k+1⟩:a6×Nat) ⟨E,(hB.ext G),(hW.ext G),(hG.ext G),(hal.ext G),i9⟩ (show ls.length-(k+1)<ls.length-k by omega) J (aP J))))))))))))
 refine aK 2 J (pf g 0 J (pf g 0 J (dG hB J (aA (no (ls.length:Nat)) J (aH J (dQ k ls.length J) (aG (aT J (d9 (cY (d7 (d8 (aL ?_))))))))))));refine sr (aE 1 J (bA (aZ [we] J ⟨rfl,xl⟩ ?_)));exact⟨rfl,o⟩
theorem a1g {wn:Nat}(hB:Bk w g 48 [up WA wn wc,up IA im ic,up NA 0 nc]):aQ aM 49 #[i5 g 0] w (Gv w (Is (we))):=by
 refine bU Tryz.func49 133 J (sr (aE 1 J (aD (sr (aE 1 J (bO ?_))))));refine dC (T:=a6×Nat) (fun⟨wr,i⟩=> [(0,i5 g 0),(3,no i)]) (fun⟨wr,i⟩=>wr) (fun⟨wr,i⟩=>(Ext w wr)∧(Bk wr g 48 [up WA wn wc,up IA im ic,up NA 0 nc])) (fun⟨wr,i⟩=>i) (⟨w,0⟩:a6×Nat) ⟨bN,hB⟩ J (aP J) ?_;rintro⟨wr,i⟩ ⟨f,hB⟩;refine aD (aV 2 J (pf g 0 J (pf g 2 J (dG hB J (aA (no 0) J (aH J (dQ i 0 J) (aG (aT J (d9 (cY (d7 ?_)))))))))));refine d8 (aL (aV 1 J (pf g 0 J (pf g 2 J (dG hB J (aA (no 0) J (mT J (k:=0) J J J Tryz.underlying46 a0y J fun o F h _ E=>?_)))))));have G:w.heap.size≤o:=by rw [←h];exact f.size
 clear h;refine aE 1 J (aD (sr (aE 1 J (bO ?_))));refine dC (T:=a6×Nat) (fun⟨wr,i⟩=> [(0,i5 g 0),(6,up (some ⟨o,0,none⟩) 0 0),(7,no i)]) (fun⟨wr,i⟩=>wr) (fun⟨wr,i⟩=>(Ext w wr)∧(Bk wr g 48 [up WA wn wc,up IA im ic,up NA 0 nc])) (fun⟨wr,i⟩=>i) (⟨F,0⟩:a6×Nat) ⟨(f.trans E),(hB.ext E)⟩ J (aP J) ?_;rintro⟨wr,i⟩ ⟨f,hB⟩;refine aD (aV 2 J (pf g 0 J (pf g 2 J (dG hB J (aA (no 0) J (aH J (dQ i 0 J) (aG (aT J (d9 (cY (d7 ?_)))))))))));refine d8 (aL (aD (sr (aE 1 J (bO ?_)))));refine dC (T:=a6×Nat) (fun⟨wr,i⟩=> [(0,i5 g 0),(6,up (some ⟨o,0,none⟩) 0 0),(10,no i)]) (fun⟨wr,i⟩=>wr) (fun⟨wr,i⟩=>(Ext w wr)∧(Bk wr g 48 [up WA wn wc,up IA im ic,up NA 0 nc])) (fun⟨wr,i⟩=>i) (⟨wr,0⟩:a6×Nat) ⟨f,hB⟩ J (aP J) ?_;rintro⟨wr,i⟩ ⟨f,hB⟩;refine aD (aV 2 J (pf g 0 J (pf g 2 J (dG hB J (aA (no 0) J (aH J (dQ i 0 J) (aG (aT J (d9 (cY (d7 ?_)))))))))));refine d8 (aL (sr (aE 1 J (bA (aZ [we] J ⟨rfl,xl⟩ ?_)))));exact⟨_,rfl,rfl,f⟩
theorem a1I {li:Nat}{ls ms:List Lst}(hB:Bk w g 48 [up WA ls.length wc,up IA ms.length ic,up NA 0 nc])(hW:Own w lw 22 1 WA ls.length wc (ls.map Lst.v))(hI:Own w li 27 1 IA ms.length ic (ms.map Lst.v))(hal:Al0 w lb ls)(hai:Ai1 w lb ms 0 0)(hlb:lb≤w.heap.size)(hN:ls.length≤1073741824)(hln:∀a,(ls.getD a Lst.z).n≤1099511620000)(hM:ms.length≤1073741824)(hlm:∀a,(ms.getD a Lst.z).n≤1099511620000):aQ aM 15 #[i5 g 0] w (fun e w'=>e= .returned (we)∧UpW lb w w'):=by
 refine bU Tryz.func15 19 J (sr (aE 1 J (aV 1 J (dP [i5 g 0] (a0Z hB hW hal hlb hN hln) J ?_))));rintro _ M ⟨rfl,f⟩;refine dO ?_;have E:UpW lb w M:=(UpW.refl lb w).trans f.upw;refine aE 1 J (aV 1 J (dP [i5 g 0] (a1n (f.bk hB yd) (f.own hI yd) (hai.upU f) (a8 hlb f.size) hM hlm) J ?_));rintro _ L ⟨rfl,h⟩;refine dO ?_;have o:UpW lb w L:=E.trans h.upw;refine aE 1 J (aV 1 J (dP [i5 g 0] (a1g (h.bk (f.bk hB yd) yd)) J ?_));rintro _ H ⟨_,rfl,G,I⟩;obtain rfl:=G;refine dO ?_;have F:UpW lb w H:=o.then_ext I;refine aE 1 J (aV 3 J (aA (we) J (mv 2 J (aA (we) J (aE 1 J (bA (aZ [we] J ⟨rfl,xl⟩ ?_)))))));exact⟨rfl,F⟩
structure UpK (lb:Nat)(w w':a6):Prop where
 os:w'.os=w.os
 tape:w'.tape=w.tape
 output:w'.output=w.output
 size:w.heap.size≤w'.heap.size
 low:∀k,k<lb→k<w.heap.size→w'.heap[k]?=w.heap[k]?
 typ:∀(k:Nat) (cs:Array aF) (t:aS) (fr:Nat×Nat),w.heap[k]?=some (.cells cs t fr)→t≠22→t≠48→t≠27→w'.heap[k]?=some (.cells cs t fr)
section
variable {lb:Nat}{a b c w w':a6}
theorem UpK.trans (h:UpK lb a b)(e:UpK lb b c):UpK lb a c:=
 ⟨e.os.trans h.os,e.tape.trans h.tape,e.output.trans h.output,a8 h.size e.size,fun k o hs=>(e.low k o (dA hs h.size)).trans (h.low k o hs),fun k cs t fr E h1 h2 f=>e.typ k cs t fr (h.typ k cs t fr E h1 h2 f) h1 h2 f⟩
theorem UpK.of_ext (lb:Nat)(e:Ext w w'):UpK lb w w':=⟨e.below.os,e.below.tape,e.below.output,e.size,fun k _ hs=>e.below.block k hs,fun _ _ _ _ f _ _ _=>e.heap f⟩
theorem UpK.ext (h:UpK lb w w')(e:Ext a w)(hl:a.heap.size≤lb):Ext a w':=
 ⟨⟨h.os.trans e.below.os,h.tape.trans e.below.tape,h.output.trans e.below.output,a8 e.size h.size,fun k f=>(h.low k (dA f hl) (dA f e.size)).trans (e.below.block k f)⟩⟩
theorem UpK.bk (h:UpK lb w w')(hb:Bk w g t vs)(h1:t≠22)(h2:t≠48)(h3:t≠27):Bk w' g t vs:=h.typ g _ _ _ hb h1 h2 h3
theorem UpK.own (h:UpK lb w w')(ho:Own w base t s A n cap vs)(h1:t≠22)(h2:t≠48)(h3:t≠27):Own w' base t s A n cap vs:=by
 rcases ho with ho | ⟨g,cs,o,hb,f,r⟩
 ·exact cJ ho
 exact cN ⟨g,cs,o,hb,h.bk f h1 h2 h3,r⟩
theorem UpK.ofO (hT:T=22∨T=27)(ho:Own w lb T s A n cap vs)(u:UpdO A w w'):UpK lb w w':=by
 refine⟨u.by_.os,u.by_.tape,u.by_.output,u.size,fun k o hs=>?_,fun k cs t fr h1 h2 _ E=>?_⟩
 ·refine u.by_.block k hs fun e=>?_;cases A with
  | none=>cases e
  | some p=>
   have e':k=p.block:=kO e
   have:=(ho.block p J).1
   omega
 refine u.heap h1 fun p f e=>?_
 have ht:t=T:=by
  rcases ho with⟨h,_⟩ | ⟨g,cs',F,_,o,_⟩
  ·rw [h] at f;cases f
  ·rw [F] at f;cases f
   simp only at e
   subst e
   unfold Bk at o
   rw [o] at h1
   injection h1 with h1
   injection h1 with _ h1
   exact h1.symm
 rcases hT with h | h
 ·exact h2 (ht.trans h)
 exact E (ht.trans h)
theorem UpK.ofU (hb:Bk w g 48 vs)(hg:lb≤g)(u:Upd g w w'):UpK lb w w':=by
 have u':UpdO (some ⟨g,0,none⟩) w w':=u.updO;refine⟨u'.by_.os,u'.by_.tape,u'.by_.output,u'.size,fun k _ hs=>?_,fun k cs t fr h1 _ h2 _=>?_⟩
 ·refine u'.by_.block k hs fun e=>?_;have e':k=g:=kO e;omega
 refine u'.heap h1 fun p f e=>h2 ?_;cases f;simp only at e;subst e;unfold Bk at hb;rw [hb] at h1;injection h1 with h1;injection h1 with _ h1;exact h1.symm
end
theorem MH (w:a6)(e:aS)(cells:List aF):∃g w',NewBk w w' g e cells∧w.heap.size=g∧w.alloc (.cells cells.toArray e)=w':=⟨_,_,NewBk.mk' w e cells,rfl,rfl⟩
section
variable {P:cO}{n:Nat}{l:Fr}{w w':a6}{d:Nat}{op:Op}{ty:aS}{pos:String}{af:Array Edge}{gd:Option (Nat×Bool)}
theorem KP {k:Nat}{e:aS}{cells:List aF}(hk:kL l op=true)(hr:∀w,(execOp (rho l) ⟨some d,op,ty,pos,af,gd⟩).run P w= .ok (.value (up (some ⟨w.heap.size,0,none⟩) k k)) (w.alloc (.cells cells.toArray e)))(hg:w.heap.size=g)(hw:w.alloc (.cells cells.toArray e)=w'):jA P n l ⟨some d,op,ty,pos,af,gd⟩ w (.value (up (some ⟨g,0,none⟩) k k)) w':=fun a f=>by
 subst hg;subst hw;rw [tX hk f];exact hr w
theorem KQ {x y:cR}{u v r:aF}(hx:cB l x=some u)(hy:cB l y=some v)(hr:(Builtin.append_ #[t,t] ty #[u,v]).run P w= .ok r w'):jA P n l ⟨some d,.call {callee:= .builtin .append,args:= #[x,y],argTypes:= #[t,t]},ty,pos,af,gd⟩ w (.value r) w':=fun a f=>by
 unfold execOp
 simp only [resolve,invoke,builtin,cV,iH,fK,pE,jS,kR,f.ev hx,f.ev hy]
 rw [hr]
 rfl
end
theorem Bk.byOK (h:Bk w g t vs)(ho:Own w lb T 1 A n c us)(hne:T≠t)(u:UpdO A w w'):Bk w' g t vs:=h.updO u (xJ ho h hne)
theorem EJ {v:aF}(h:Bk w g t [v]):∀j u,([v]:List aF)[j]?=some u→w.cell? ((⟨g,0,none⟩:a7).add j)=some u:=by
 intro j u f;rw [jI,eR];obtain⟨h1,h2⟩:=gU.1 f;rw [h.cell h1,bL,f];rfl
theorem EY (ls:List Lst)(A:Option a7)(n c:Nat):ls.map Lst.v++ [qZ A n c]=(ls++ [(⟨A,n,c⟩:Lst)]).map Lst.v:=by simp [Lst.v]
theorem UpK.refl (lb:Nat)(w:a6):UpK lb w w:=UpK.of_ext lb bN
theorem LN {i:Nat}(h:Own w b 24 2 A n c us)(hi:i<n):∃p,A.map (·.add (i*2))=some p:=by
 have hl:=mD h;obtain⟨a,f,_⟩:=h.rv.get (i*2) i9;rw [f];exact⟨_,rfl⟩
theorem LM {i:Nat}{p:a7}{v:aF}(h:Own w b 24 2 A n c us)(hp:A.map (·.add (i*2))=some p)(hi:i<n)(hv:us[i*2+1]?=some v):w.cell? (p.add 1)=some v:=by
 have hl:=mD h;obtain⟨a,f,hc⟩:=h.rv.get (i*2+1) i9;subst f;have e:=kO hp;subst e;rw [Go.Deep.add_add,hc,bL,hv];rfl
theorem K8 (ls xs:List Lst){i:Nat}(h:i<xs.length):(ls++xs.take i)++ [⟨(xs.getD i Lst.z).A,(xs.getD i Lst.z).n,(xs.getD i Lst.z).c⟩]=ls++xs.take (i+1):=by
 rw [List.append_assoc,List.take_add_one,bL,cT h];rfl
def a30 (w:a6)(lb g n k:Nat)(ls ms xs:List Lst)(x:Lst)(v:aF)(e:Ending)(w':a6):Prop:=
 e= .returned (.tuple #[])∧UpK lb w w'∧∃WA c IA d,Bk w' g 48 [up WA (n+x.n) c,up IA (k+1) d,v]∧Own w' lb 22 1 WA (n+x.n) c ((ls++xs).map Lst.v)∧Own w' lb 27 1 IA (k+1) d ((ms++ [x]).map Lst.v)
theorem OV {k:Nat}{nv:aF}{ls ms xs:List Lst}(hB:Bk w g 48 [up WA n wc,up IA k ic,nv])(hW:Own w lb 22 1 WA n wc (ls.map Lst.v))(hI:Own w lb 27 1 IA k ic (ms.map Lst.v))(hlb:lb≤w.heap.size)(hg:lb≤g)(hL:Own w b 24 2 A m c us)(hlx:xs.length=m)(hxs:∀i,i<m→us[i*2+1]?=some (xs.getD i Lst.z).v)(hn:n+m≤1099511600000)(hk:k≤1099511600000):aQ aM 14 #[i5 g 0,up A m c] w (a30 w lb g n k ls ms xs ⟨A,m,c⟩ nv):=by
 refine bU Tryz.func14 35 J (aV 2 J (pf g 0 J (pf g 1 J (dG hB J (mv 1 J (iF J J (k:=1) (e:=27) [up A m c] ye fun _ v2 bu=>?_))))));have de:=bu.bk;have e7:=bu.ext;have U:UpK lb w v2:=(UpK.refl lb w).trans (UpK.of_ext lb e7);have G:=(hI.ext e7);refine nR J J J sW NW J G (a8 hlb U.size) [up A m c] J (EJ de) J fun A8 c9 au ai L _=>?_;have E:=(hB.ext e7).byOK G yd L;rw [EY] at ai;have ba:UpK lb v2 au:=UpK.ofO ym G L;have av:UpK lb w au:=U.trans ba;refine pf g 0 J (pf g 1 J (i0 J J J ye J E (show 1<3 by decide) J [up WA n wc,up A8 (k+1) c9,nv] J fun ao bf ar _=>?_));have bw:UpK lb au ao:=UpK.ofU E hg ar;have az:=(ai).updT E yd ar;have X:UpK lb w ao:=av.trans bw;refine aG (sr (aE 1 J (bO ?_)));refine dC (T:=a6×Nat×Option a7×Nat) (fun⟨wr,i,WB,f⟩=> [(0,i5 g 0),(1,up A m c),(4,no i)]) (fun⟨wr,i,WB,f⟩=>wr) (fun⟨wr,i,WB,f⟩=>(UpK lb w wr)∧(Bk wr g 48 [up WB (n+i) f,up A8 (k+1) c9,nv])∧(Own wr lb 22 1 WB (n+i) f ((ls++xs.take i).map Lst.v))∧(Own wr lb 27 1 A8 (k+1) c9 ((ms++ [(⟨A,m,c⟩:Lst)]).map Lst.v))∧(Own wr b 24 2 A m c us)∧(i≤m)) (fun⟨wr,i,WB,f⟩=>m-i) (⟨ao,0,_,_⟩:a6×Nat×Option a7×Nat) ⟨X,bf,(by rw [List.take_zero,m7];exact (((((hW.ext e7)).updOT G yd L)).updT E yd ar)),az,(bw.own (ba.own (hL.ext e7) yd yd yd) yd yd yd),(bX _)⟩ J (aP J) ?_;rintro⟨wr,i,WB,f⟩ ⟨U,aa,aq,ci,ak,hi⟩;refine aD (aD ?_);by_cases dg:i<m
 ·refine aK 2 J (aA (no m) J (aH J (dV i m J) (aG (bC J (bB (aL (aD (bO (f9 [(0,i5 g 0),(1,up A m c),(4,no i),(15,no i),(16,up A m c),(17,no m),(18,we)] (aP J) ?_)))))))));obtain⟨Y,hv,o⟩:=gH wr;have av:UpK lb w Y:=U.trans (UpK.of_ext lb o);obtain⟨M,aj⟩:=LN (ak.ext o) (i:=i) i9;obtain⟨ct,am,ag,bp,ch⟩:=MH Y 22 [up ((xs.getD i Lst.z).A) ((xs.getD i Lst.z).n) ((xs.getD i Lst.z).c)];have bm:=ag.bk;have I:=ag.ext;have X:UpK lb w am:=av.trans (UpK.of_ext lb I);have H:=(aq.ext (o.t I));obtain⟨ab,Z,W,cp,ah,V,_⟩:=AH (P:=aM) (ty:=36) mU xZ J yd yd H (a8 hlb X.size) (m:=1) (c:=1) (news:= [up ((xs.getD i Lst.z).A) ((xs.getD i Lst.z).n) ((xs.getD i Lst.z).c)]) J (EJ bm) J i9;have F:=(aa.ext (o.t I)).byOK H yd V;rw [EY] at ah;have bh:UpK lb am W:=UpK.ofO ym H V;have da:UpK lb w W:=X.trans bh;obtain⟨ae,br,bg,aw,_⟩:=xE (P:=aM) (v:= up ab (n+i+1) Z) (T:=36) ye J F (show 0<3 by decide) J [up ab (n+i+1) Z,up A8 (k+1) c9,nv] rfl;have bo:UpK lb W ae:=UpK.ofU F hg aw;have bj:=(ah).updT F yd aw;have bi:=((((ci.ext (o.t I))).updOT H yd V)).updT F yd aw;have cz:UpK lb w ae:=da.trans bo;refine gJ cM Y [i5 g 0,i5 g 0,i5 g 0,i5 g 0,up WB (n+i) f,up A m c,no i,.pointer (some M),.pointer (some (M.add 1)),up ((xs.getD i Lst.z).A) ((xs.getD i Lst.z).n) ((xs.getD i Lst.z).c),up (some ⟨ct,0,none⟩) 1 1,up ab (n+i+1) Z,i5 g 0,i5 g 0,undef] [Y,am,W,ae] [10,11,14] [[],[],[1],[2],[3],[],[],[5,6],[7],[8],[9],[4,10],[0],[12],[11,13]] [(0,0),(0,1),(0,2),(1,0),(1,1),(2,0),(2,1),(3,0),(3,1),(4,0),(4,1),(5,0),(6,0),(7,0),(8,0),(9,0),(10,0),(11,1),(12,2),(13,2),(14,2)] J hv ?_ ?_
  ·refine aR J (cC J) (aR J (cC J) (aR J (cC J) (aR J (cC J) (aR J (cC J) (aR J (iO J) (aR J (iO J) (aR J (iO J) (aR J (iO J) (aR J (cS J (cE ye (aa.ext o) J)) (aR J (cS J (cE ye (aa.ext (o.t I)) J)) (aR J (cC J) (aR J (cC J) (aR J (gG J J fI aB.size i J M aj) ?_)))))))))))));refine aR J (iO J) (aR J (cS J (d5 ye (LM (ak.ext o) aj i9 (hxs i i9)))) (yC _ J J J J J J (KP J ye bp ch) (yC _ J J J J J J (KQ J J cp) (aR J (iO J) (aR J (iO J) (fV _ J J J J J J (fQ J J br) ?_))))));exact gI
  refine fU [(0,i5 g 0),(1,up A m c),(4,no i),(15,no i),(16,up A m c),(17,no m),(18,we),(21,i5 g 0),(22,i5 g 0),(23,i5 g 0),(24,i5 g 0),(25,up WB (n+i) f),(26,up A m c),(27,no i),(28,.pointer (some M)),(29,.pointer (some (M.add 1))),(30,up ((xs.getD i Lst.z).A) ((xs.getD i Lst.z).n) ((xs.getD i Lst.z).c)),(31,up (some ⟨ct,0,none⟩) 1 1),(32,up ab (n+i+1) Z),(33,i5 g 0),(34,i5 g 0)] (aP J) (bT (aL (aK 1 J (bD J (cK i 1 J) (bS 1 J (cP (⟨ae,i+1,_,_⟩:a6×Nat×Option a7×Nat) ⟨cz,bg,(by have h:=bj;rwa [K8 ls xs i9] at h),bi,(bo.own (bh.own (ak.ext (o.t I)) yd yd yd) yd yd yd),i9⟩ (show m-(i+1)<m-i by omega) J (aP J)))))))
 refine aK 2 J (aA (no m) J (aH J (dQ i m J) (aG (aT J (d9 (cY (d7 (d8 (sA [] J xl ?_)))))))));have cv:i=m:=by omega
 subst cv;rw [List.take_of_length_le i9] at aq;exact⟨rfl,U,WB,f,A8,c9,aa,aq,ci⟩
def IU (x j:Nat):Nat:=((3*x%18446744073709551616+j)%18446744073709551616+1)%18446744073709551616
def gF (i:Nat)(xs:List Nat):List Nat:=(eI i).map (fun j=>IU (xs.getD j 0) j)++xs.drop i
theorem TD (xs:List Nat):gF 0 xs=xs:=by unfold gF;simp
theorem wZ {i:Nat}(h:i≤xs.length):(gF i xs).length=xs.length:=by unfold gF;rw [f8,List.length_map,List.length_range,iK];omega
theorem TG {i:Nat}(h:i<xs.length):(gF i xs).getD i 0=xs.getD i 0:=by
 unfold gF;rw [bL,List.getElem?_append_right (by rw [List.length_map,List.length_range];exact aU _),List.length_map,List.length_range,Nat.sub_self,nO,fN,←bL]
theorem TF {i:Nat}(h:i<xs.length):(gF i xs).set i (IU (xs.getD i 0) i)=gF (i+1) xs:=by
 unfold gF;have f:xs.drop i=xs.getD i 0::xs.drop (i+1):=a19 h;rw [List.set_append_right _ _ (by rw [List.length_map,List.length_range];exact aU _),List.length_map,List.length_range,Nat.sub_self,f,List.set_cons_zero,List.range_succ,List.map_append,List.append_assoc];rfl
theorem TE {i:Nat}(h:Wf xs):Wf (gF i xs):=by
 intro x hx;unfold gF at hx;rcases m5.1 hx with hx | hx
 ·obtain⟨j,_,rfl⟩:=m4.1 hx;exact Nat.mod_lt _ yd
 exact h x (q9 hx)
theorem QB {A B:Int}(ha:A=(a:Int))(hb:B=(b:Int)):eY .add .u64 A B=some (((a+b)%18446744073709551616:Nat):Int):=by
 subst ha hb;simp only [eY,f7];rw [←Int.natCast_add];exact oI _
theorem a3D {A B:Int}(ha:A=(a:Int))(hb:B=(b:Int)):eY .mul .u64 A B=some ((a*b%18446744073709551616:Nat):Int):=by
 subst ha hb;simp only [eY,f7];rw [←Int.natCast_mul];exact oI _
theorem TC {i:Nat}(h:i<xs.length):(gF i xs++ms).set i ((((3*(gF i xs++ms).getD i 0)%18446744073709551616+i)%18446744073709551616+1)%18446744073709551616)=gF (i+1) xs++ms:=by
 have h1:i<(gF i xs).length:=by rw [wZ i9];exact h
 have e:(gF i xs++ms).getD i 0=xs.getD i 0:=by
  rw [bL,List.getElem?_append_left h1,←bL,TG h]
 rw [e,List.set_append_left _ _ h1];exact congrArg (· ++ms) (TF h)
structure UpT (lo hi:Nat)(w w':a6):Prop where
 os:w'.os=w.os
 tape:w'.tape=w.tape
 output:w'.output=w.output
 size:w.heap.size≤w'.heap.size
 out:∀k,k<w.heap.size→(k<lo∨hi≤k)→w'.heap[k]?=w.heap[k]?
 typ:∀(k:Nat) (cs:Array aF) (t:aS) (fr:Nat×Nat),w.heap[k]?=some (.cells cs t fr)→t≠43→w'.heap[k]?=some (.cells cs t fr)
section
variable {lo hi:Nat}{a b c w w':a6}
theorem UpT.trans (h:UpT lo hi a b)(e:UpT lo hi b c):UpT lo hi a c:=
 ⟨e.os.trans h.os,e.tape.trans h.tape,e.output.trans h.output,a8 h.size e.size,fun k f hs=>(e.out k (dA f h.size) hs).trans (h.out k f hs),fun k cs t fr o h1=>e.typ k cs t fr (h.typ k cs t fr o h1) h1⟩
theorem UpT.of_ext (lo hi:Nat)(e:Ext w w'):UpT lo hi w w':=⟨e.below.os,e.below.tape,e.below.output,e.size,fun k hs _=>e.below.block k hs,fun _ _ _ _ f _=>e.heap f⟩
theorem UpT.of_upd (hb:Bk w g 43 vs)(h1:lo≤g)(h2:g<hi)(u:Upd g w w'):UpT lo hi w w':=by
 refine⟨u.by_.os,u.by_.tape,u.by_.output,u.by_.size,fun k h hs=>u.by_.block k h (fun e=>by injection e with e;omega),fun k cs t fr f ht=>u.heap f fun e=>ht ?_⟩;subst e;unfold Bk at hb;rw [hb] at f;injection f with f;injection f with _ f;exact f.symm
theorem UpT.bk (h:UpT lo hi w w')(hb:Bk w g t vs)(h1:t≠43):Bk w' g t vs:=h.typ g _ _ _ hb h1
theorem UpT.ownT (h:UpT lo hi w w')(ho:Own w base t s A n cap vs)(h1:t≠43):Own w' base t s A n cap vs:=by
 rcases ho with ho | ⟨g,cs,o,hb,f,r⟩
 ·exact cJ ho
 exact cN ⟨g,cs,o,hb,h.bk f h1,r⟩
end
section
variable {w w':a6}{lo n:Nat}{γ:Nat→Nat}{ω:Nat→List Nat}
theorem Bk.updOT (h:Bk w g t vs)(ho:Own w lb T s A m c us)(hT:T≠t)(u:UpdO A w w'):Bk w' g t vs:=h.updO u (xJ ho h hT)
theorem Bk.updTT {k:Nat}(h:Bk w g t vs)(hb:Bk w k T us)(hT:t≠T)(u:Upd k w w'):Bk w' g t vs:=h.updN u fun e=>by
 subst e
 unfold Bk at h hb
 rw [h] at hb
 injection hb with hb
 injection hb with _ hb
 exact hT hb
def Fam (w:a6)(lo n:Nat)(γ:Nat→Nat)(ω:Nat→List Nat):Prop:=
 (∀j,j<n→lo≤γ j∧Wf (ω j)∧Bk w (γ j) 43 ((ω j++j8 (ω j).length).map bF))∧∀i j,i<j→j<n→γ i<γ j
theorem Fam.ext (h:Fam w lo n γ ω)(e:Ext w w'):Fam w' lo n γ ω:=⟨fun j f=>⟨(h.1 j f).1,(h.1 j f).2.1,(h.1 j f).2.2.ext e⟩,h.2⟩
theorem Fam.updT (h:Fam w lo n γ ω)(hb:Bk w g T us)(hT:43≠T)(u:Upd g w w'):Fam w' lo n γ ω:=⟨fun j f=>⟨(h.1 j f).1,(h.1 j f).2.1,(h.1 j f).2.2.updTT hb hT u⟩,h.2⟩
theorem Fam.updOT (h:Fam w lo n γ ω)(ho:Own w b T s A m c us)(hT:T≠43)(u:UpdO A w w'):Fam w' lo n γ ω:=⟨fun j f=>⟨(h.1 j f).1,(h.1 j f).2.1,(h.1 j f).2.2.updOT ho hT u⟩,h.2⟩
theorem Fam.lt (h:Fam w lo n γ ω)(hj:j<n):γ j<w.heap.size:=(h.1 j hj).2.2.lt
theorem Fam.zero:Fam w lo 0 γ ω:=⟨fun _ h=>absurd h (Nat.not_lt_zero _),fun _ _ _ h=>absurd h (Nat.not_lt_zero _)⟩
theorem Fam.mono (h:Fam w lo n γ ω)(hl:lo'≤lo):Fam w lo' n γ ω:=⟨fun j f=>⟨a8 hl (h.1 j f).1,(h.1 j f).2⟩,h.2⟩
theorem Fam.snoc (h:Fam w lo n γ ω)(hw:Wf (ω n))(hb:Bk w g 43 ((ω n++j8 (ω n).length).map bF))(hlo:lo≤g)(hg:∀j,j<n→γ j<g):Fam w lo (n+1) (fun j=>if j=n then g else γ j) ω:=by
 refine⟨fun j o=>?_,fun i j f o=>?_⟩
 ·by_cases e:j=n
  ·subst e;simp only [if_true];exact⟨hlo,hw,hb⟩
  simp only [if_neg e];exact h.1 j i9
 by_cases e:j=n
 ·subst e;simp only [if_true];rw [if_neg i9];exact hg i f
 simp only [if_neg e];rw [if_neg i9];exact h.2 i j f i9
theorem Fam.inj (h:Fam w lo n γ ω){i:Nat}(hi:i<n)(hj:j<n)(e:γ i=γ j):i=j:=by
 rcases Nat.lt_trichotomy i j with h1 | h1 | h1
 ·have:=h.2 i j h1 hj;omega
 ·exact h1
 have:=h.2 j i h1 hi;omega
def tU (k:Nat)(ω:Nat→List Nat)(j:Nat):List Nat:=if j<k then gF (ω j).length (ω j) else ω j
theorem uR (k j:Nat):(tU k ω j).length=(ω j).length:=by
 unfold tU;split
 ·exact wZ (aU _)
 rfl
theorem TS:tU 0 ω=ω:=by funext j;unfold tU;rw [if_neg (Nat.not_lt_zero _)]
theorem J2 (k:Nat):tU k ω k=ω k:=by unfold tU;rw [if_neg (Nat.lt_irrefl _)]
theorem Fam.turn {k:Nat}(h:Fam w lo n γ (tU k ω))(hk:k<n)(u:Upd (γ k) w w')(hb:Bk w' (γ k) 43 ((gF (ω k).length (ω k)++j8 (ω k).length).map bF)):Fam w' lo n γ (tU (k+1) ω):=by
 refine⟨fun j E=>?_,h.2⟩;obtain⟨h1,h2,G⟩:=h.1 j E;by_cases e:j=k
 ·subst e;rw [J2] at h2;have o:tU (j+1) ω j=gF (ω j).length (ω j):=by unfold tU;rw [if_pos i9]
  rw [o,wZ (aU _)];exact⟨h1,TE h2,hb⟩
 have o:tU (k+1) ω j=tU k ω j:=by
  unfold tU
  by_cases f:j<k
  ·rw [if_pos f,if_pos i9]
  ·rw [if_neg f,if_neg i9]
 rw [o];exact⟨h1,h2,G.updN u fun F=>e (h.inj E hk F)⟩
end
def Cz (us:List aF)(n:Nat)(σ:Nat→Bool)(γ:Nat→Nat)(ω:Nat→List Nat):Prop:=∀j,j<n→us[j*2]?=some (.bool (σ j))∧us[j*2+1]?=some (.slice (some ⟨γ j,0,none⟩) (ω j).length ((ω j).length+80))
def Cw (us:List aF)(n:Nat)(γ:Nat→Nat)(ω:Nat→List Nat):Prop:=∀j,j<n→us[j]?=some (up (some ⟨γ j,0,none⟩) ((ω j).length+80) ((ω j).length+80))
def Zw (w:a6)(A:Option a7)(n cap:Nat)(σ:Nat→Bool)(ω:Nat→List Nat):Prop:=n≤cap∧cap≤maxLen∧∀i,i<n→∃a B c,A=some a∧w.cell? (a.add (i*2))=some (.bool (σ i))∧w.cell? (a.add (i*2+1))=some (.slice B (ω i).length c)∧Rd w B (ω i).length c (ω i)
def lM (n:Nat)(σ:Nat→Bool)(ω:Nat→List Nat):List Int:=(eI n).map fun i=>sg (σ i) (nv (ω i))
def kI (n:Nat)(ω:Nat→List Nat):List Nat:=(eI n).map fun i=>(ω i).length
theorem RD {i:Nat}{σ:Nat→Bool}{ω:Nat→List Nat}(hi:i<n):(lM n σ ω).getD i 0=sg (σ i) (nv (ω i)):=by
 unfold lM;rw [bL,jM,List.getElem?_range hi];rfl
theorem MF {i:Nat}{ω:Nat→List Nat}(hi:i<n):(kI n ω).getD i 0=(ω i).length:=by
 unfold kI;rw [bL,jM,List.getElem?_range hi];rfl
section
variable {w w':a6}{A:Option a7}{n cap:Nat}{σ:Nat→Bool}{ω:Nat→List Nat}
theorem Zw.zl (h:Zw w A n cap σ ω):Zl w A n cap (lM n σ ω) (kI n ω):=by
 refine⟨by unfold lM;rw [List.length_map,List.length_range],by unfold kI;rw [List.length_map,List.length_range],h.1,h.2.1,fun i hi=>?_⟩;obtain⟨a,B,c,h1,h2,o,f⟩:=h.2.2 i hi;rw [MF hi,RD hi];exact⟨a,σ i,B,c,h1,h2,o,ω i,f,rfl⟩
theorem Zl.zw (h:Zl w A n cap zs ms):∃σ ω,Zw w A n cap σ ω∧zs=lM n σ ω∧∀i,i<n→(ω i).length=ms.getD i 0:=by
 have key:∀i,∃s xs,i<n→∃a B c,A=Option.some a∧w.cell? (a.add (i*2))=Option.some (.bool s)∧w.cell? (a.add (i*2+1))=Option.some (up B (ms.getD i 0) c)∧Rd w B (ms.getD i 0) c xs∧sg s (nv xs)=zs.getD i 0:=fun i=>by
  by_cases hi:i<n
  ·obtain⟨a,s,B,c,h1,h2,E,xs,f,o⟩:=h.get i hi
   exact⟨s,xs,fun _=>⟨a,B,c,h1,h2,E,f,o⟩⟩
  ·exact⟨false,[],fun h=>absurd h hi⟩
 obtain⟨σ,key⟩:=Classical.axiomOfChoice key;obtain⟨ω,key⟩:=Classical.axiomOfChoice key
 have hl:∀i,i<n→(ω i).length=ms.getD i 0:=fun i hi=>by
  obtain⟨_,_,_,_,_,_,f,_⟩:=key i hi
  exact f.len
 refine⟨σ,ω,⟨h.le,h.max,fun i hi=>?_⟩,?_,hl⟩
 ·obtain⟨a,B,c,h1,h2,E,f,_⟩:=key i hi;rw [hl i hi];exact⟨a,B,c,h1,h2,E,f⟩
 apply List.ext_getElem?;intro i;unfold lM;by_cases hi:i<n
 ·obtain⟨_,_,_,_,_,_,_,o⟩:=key i hi;rw [jM,List.getElem?_range hi,cT (by rw [h.len];exact hi)];rw [bL,cT (by rw [h.len];exact hi)] at o;simp only [sM,o,nM]
 rw [jT (by rw [h.len];omega),jT (by rw [List.length_map,List.length_range];omega)]
theorem Zw.at_ (h:Zw w A n cap σ ω){i:Nat}(hi:i<n):∃p B c,A.map (·.add (i*2))=some p∧(∀w',Ext w w'→∀(P:cO) (T:aS),AggT P T 2→(loadVar T p).run P w'= .ok (.agg #[.bool (σ i),.slice B (ω i).length c]) w')∧(∀w',Ext w w'→w'.cell? (p.add 1)=some (.slice B (ω i).length c))∧Rd w B (ω i).length c (ω i):=by
 obtain⟨a,B,c,rfl,h1,h2,E⟩:=h.2.2 i hi;refine⟨a.add (i*2),B,c,rfl,fun w' e P T f=>tJ f [.bool (σ i),.slice B (ω i).length c] J (fun j o=>?_),fun w' e=>?_,E⟩
 ·rw [oY]
  match j,o with
  | 0,_=>exact e.cell h1
  | 1,_=>exact e.cell h2
 rw [oY];exact e.cell h2
theorem RC {lo:Nat}{γ:Nat→Nat}{ω0:Nat→List Nat}(ho:Own w lo 24 2 A m cap us)(hc:Cz us n σ γ ω0)(hf:Fam w lo' n γ ω)(hl:∀j,(ω j).length=(ω0 j).length)(hn:n≤m)(hK:∀j,j<n→(ω j).length≤1048576):Zw w A n cap σ ω:=by
 refine⟨a8 hn ho.rv.le,ho.rv.max,fun i hi=>?_⟩;obtain⟨F,h⟩:=hc i hi;have G:=mD ho;obtain⟨a,f,h1⟩:=ho.rv.get (i*2) i9;obtain⟨a',ha',h2⟩:=ho.rv.get (i*2+1) i9;rw [f] at ha';cases ha';rw [bL,F] at h1;rw [bL,h,←hl i] at h2;obtain⟨_,o,E⟩:=hf.1 i hi;exact⟨a,_,_,f,h1,h2,E4 E J o (a8 (hK i hi) yd)⟩
end
theorem rN {i:Nat}{u1:aF}(h:Own w b 24 2 A n c us)(hi:i<n)(h0:us[i*2]?=some u0)(h1:us[i*2+1]?=some u1):∃p,A.map (·.add (i*2))=some p∧(∀w',Ext w w'→∀(P:cO) (T:aS),AggT P T 2→(loadVar T p).run P w'= .ok (.agg #[u0,u1]) w'):=by
 have G:=mD h;obtain⟨a,o,h2⟩:=h.rv.get (i*2) i9;obtain⟨a',ha',f⟩:=h.rv.get (i*2+1) i9;rw [o] at ha';cases ha';rw [bL,h0] at h2;rw [bL,h1] at f;refine⟨a.add (i*2),by rw [o];rfl,fun w' e P T E=>tJ E [u0,u1] J (fun j F=>?_)⟩;rw [oY]
 match j,F with
 | 0,_=>exact e.cell h2
 | 1,_=>exact e.cell f
theorem YG {i:Nat}(h:Own w b 22 1 A n c us)(hi:i<n)(h0:us[i]?=some u0):∃p,A.map (·.add (i*1))=some p∧w.cell? p=some u0:=by
 have f:us.length=n:=by have:=h.rv.len;omega
 obtain⟨a,o,h2⟩:=h.rv.get i i9;rw [bL,h0] at h2;exact⟨a.add (i*1),by rw [o];rfl,by rw [eH];exact h2⟩
section
variable {Q:Exit→Act→a6→Prop}{N:Nat}{l:Fr}{w:a6}{ops:Array bE}{rest:List bE}{ty:aS}{pos:String}{af:Array Edge}{gd:Option (Nat×Bool)}
end
structure Sg (w:a6)(lb:Nat)(P:Nat→Prop)(ls:List Lst):Prop where
 al:Al0 w lb ls
 rg:∀a,a<ls.length→∀p,(ls.getD a Lst.z).A=some p→P p.block
section
variable {w w':a6}{lb:Nat}{P Q:Nat→Prop}{ls l1 l2:List Lst}
theorem Sg.imp (h:Sg w lb P ls)(hi:∀g,P g→Q g):Sg w lb Q ls:=⟨h.al,fun a o p f=>hi _ (h.rg a o p f)⟩
theorem Sg.one (ho:Own w lb 43 1 A n c (xs.map bF))(hr:∀p,A=some p→P p.block):Sg w lb P [⟨A,n,c⟩]:=by
 refine⟨⟨fun a b f hb _=>?_,fun a f=>?_⟩,fun a f=>?_⟩
 ·simp only [List.length_singleton] at f hb;omega
 ·obtain rfl:a=0:=by simpa using f
  exact⟨xs,ho,fun h=>absurd h (Nat.not_lt_zero _),fun _=>rfl⟩
 obtain rfl:a=0:=by simpa using f
 exact hr
theorem FF (l1 l2:List Lst)(a:Nat):(l1++l2).getD a Lst.z=if a<l1.length then l1.getD a Lst.z else l2.getD (a-l1.length) Lst.z:=by
 simp only [bL];split
 ·rename_i h;rw [List.getElem?_append_left h]
 rename_i h;rw [List.getElem?_append_right i9]
theorem Sg.app (h:Sg w lb P l1)(k:Sg w lb Q l2)(hd:∀g,P g→Q g→False):Sg w lb (fun g=>P g∨Q g) (l1++l2):=by
 have F:(l1++l2).length=l1.length+l2.length:=f8;refine⟨⟨fun a b G hb E p q f o e=>?_,fun a G=>?_⟩,fun a G p f=>?_⟩
 ·rw [FF] at f o;by_cases h1:a<l1.length
  ·rw [if_pos h1] at f;by_cases h2:b<l1.length
   ·rw [if_pos h2] at o;exact h.al.dis a b h1 h2 E p q f o e
   rw [if_neg h2] at o;exact hd p.block (h.rg a h1 p f) (e▸k.rg (b-l1.length) i9 q o)
  rw [if_neg h1] at f;by_cases h2:b<l1.length
  ·rw [if_pos h2] at o;exact hd q.block (h.rg b h2 q o) (e▸k.rg (a-l1.length) i9 p f)
  rw [if_neg h2] at o;exact k.al.dis _ _ i9 i9 i9 p q f o e
 ·rw [FF];by_cases h1:a<l1.length
  ·rw [if_pos h1];obtain⟨xs,h2,_⟩:=h.al.own a h1;exact⟨xs,h2,fun h=>absurd h (Nat.not_lt_zero _),fun _=>rfl⟩
  rw [if_neg h1];obtain⟨xs,h2,_⟩:=k.al.own (a-l1.length) i9;exact⟨xs,h2,fun h=>absurd h (Nat.not_lt_zero _),fun _=>rfl⟩
 rw [FF] at f;by_cases h1:a<l1.length
 ·rw [if_pos h1] at f;exact cJ (h.rg a h1 p f)
 rw [if_neg h1] at f;exact cN (k.rg (a-l1.length) i9 p f)
def mF (n:Nat)(γ:Nat→Nat)(ω:Nat→List Nat):List Lst:=(eI n).map fun j=>⟨some ⟨γ j,0,none⟩,(ω j).length,(ω j).length+80⟩
theorem vI (n:Nat)(γ:Nat→Nat)(ω:Nat→List Nat):(mF n γ ω).length=n:=by unfold mF;rw [List.length_map,List.length_range]
theorem vJ {γ:Nat→Nat}{ω:Nat→List Nat}(hj:j<n):(mF n γ ω).getD j Lst.z=⟨some ⟨γ j,0,none⟩,(ω j).length,(ω j).length+80⟩:=by
 unfold mF;rw [bL,jM,List.getElem?_range hj];rfl
theorem WC (h:Bk w g 43 ((ys++j8 n).map bF))(hl:ys.length=n)(hlb:lb≤g)(hn:n≤1099511627000):Own w lb 43 1 (some ⟨g,0,none⟩) n (n+80) (ys.map bF):=
 Own.mk_ hlb h (Nat.le_add_right _ _) (by rw [eV];omega) (by rw [List.length_map,f8,vH,hl,eH]) (by rw [eH,List.map_append,List.take_left' (by rw [List.length_map,hl])])
theorem Sg.fam {lo:Nat}{γ:Nat→Nat}{ω ω':Nat→List Nat}(h:Fam w lo n γ ω')(hl:∀j,(ω' j).length=(ω j).length)(hlb:lb≤lo)(hK:∀j,j<n→(ω j).length≤1048576)(hr:∀j,j<n→P (γ j)):Sg w lb P (mF n γ ω):=by
 refine⟨⟨fun a b f hb E p q o G e=>?_,fun a f=>?_⟩,fun a f p o=>?_⟩
 ·rw [vI] at f hb;rw [vJ f] at o;rw [vJ hb] at G;cases o;cases G;exact E (h.inj f hb e)
 ·rw [vI] at f;rw [vJ f];obtain⟨h1,_,F⟩:=h.1 a f;rw [hl] at F;exact⟨ω' a,WC F (hl a) (a8 hlb h1) (a8 (hK a f) yd),fun h=>absurd h (Nat.not_lt_zero _),fun _=>rfl⟩
 rw [vI] at f;rw [vJ f] at o;cases o;exact hr a f
end
theorem NC {ls:List Lst}(h:∀x,x∈ls→x.n≤M)(a:Nat):(ls.getD a Lst.z).n≤M:=by
 rw [bL];by_cases f:a<ls.length
 ·rw [cT f];exact h _ (List.getElem_mem f)
 rw [jT i9];exact bX _
theorem ND {γ:Nat→Nat}{ω:Nat→List Nat}(h:∀j,j<n→(ω j).length≤M):∀x,x∈mF n γ ω→x.n≤M:=fun x hx=>by
 unfold mF at hx
 obtain⟨j,f,rfl⟩:=m4.1 hx
 exact h j (j5.1 f)
section
variable {w w':a6}{lo hi:Nat}
end
theorem a1v {k:Int}{nb:Nat}{nd:Nat}{sg:Bool}(hx:Zi w sa Aa na ca x)(la:na≤1048576)(hy:Zi w sb Ab nb cb y)(lb:nb≤1048576)(hu:Zi w sd Ad nd cd u)(ld:nd≤1048576)(hv:Zi w se Ae ne ce v)(le:ne≤1048576)(hp:Zi w sf Af nf cf p)(lf:nf≤1048576)(hq:Zi w sg Ag ng cg q)(lg:ng≤1048576)(hl:Zl w C n c zs ms)(hn:n≤1048576)(hmb:∀i,ms.getD i 0≤1048576)(hnd:yP zs)(hbs:∀b,b∈bs→b<256)(hlen:bs.length≤1048576)(hS:Signs w):aQ aM 8 #[.agg #[no k,.bool sa,up Aa na ca,.bool sb,up Ab nb cb,.bool sd,up Ad nd cd,.bool se,up Ae ne ce,.bool sf,up Af nf cf,.bool sg,up Ag ng cg,.string (aN bs),up C n c]] w (Gv w (AnsA8 w.heap.size (mX k x y u v p q bs zs))):=by
 have Lx:=bP hx la;have Ly:=bP hy lb;have Lu:=bP hu ld;have Lv:=bP hv le;have Lp:=bP hp lf;have Lq:=bP hq lg;refine bU Tryz.func8 152 J (sr (bx [no k,.bool sa,up Aa na ca,.bool sb,up Ab nb cb,.bool sd,up Ad nd cd,.bool se,up Ae ne ce,.bool sf,up Af nf cf,.bool sg,up Ag ng cg,.string (aN bs),up C n c] bN J J J fun V _ ma _ _ ky=>(bV [F0,S0,F0,S0,F0,S0,S0,I0,.string ⟨#[]⟩,I0] ky ma.lt J fun g6 _ me ni _ e8 mh=>(aG (sr (aA (.agg #[F0,S0,F0,S0,F0,S0,S0,I0,.string ⟨#[]⟩,I0]) J (bV [F0,S0,F0,S0,F0,S0,S0,I0,.string ⟨#[]⟩,I0] mh me.lt J fun E _ ou h _ jt qj=>(so iC ou [F0,S0,F0,S0,F0,S0,S0,I0,.string ⟨#[]⟩,I0] qj h J J J J fun aa L iw f=>(aG ?_)))))))));obtain⟨gf,F,_,kt,_,_,_⟩:∃lb,lb≤aa.heap.size∧aa.heap.size≤lb∧w.heap.size≤lb∧V<lb∧g6<lb∧E<lb:=⟨aa.heap.size,aU _,aU _,f.size,((ma.ext (e8.t jt)).vN iw).lt,((me.ext jt).vN iw).lt,L.lt⟩;have M:=((me.ext jt).vN iw);have o:=((ma.ext (e8.t jt)).vN iw);refine tZ (T:=a6×Ans8×ZC×ZC×ZC×Option a7×Nat) (fun⟨wr,t,k1,k2,U,B,d⟩=> [(2,i5 g6 0),(3,i5 E 0)]) (fun⟨wr,t,k1,k2,U,B,d⟩=>wr) (fun⟨wr,t,k1,k2,U,B,d⟩=>(Ext w wr)∧(mX k x y u v p q bs zs=t)∧(Bk wr g6 33 [F0,S0,F0,S0,F0,S0,S0,I0,.string ⟨#[]⟩,I0])∧(Bk wr E 33 [.bool k1.s,up k1.A k1.n k1.c,.bool k2.s,up k2.A k2.n k2.c,.bool U.s,up U.A U.n U.c,up B t.L.length d,no t.N,.string (aN t.S),no t.E])∧(J9 wr w.heap.size gf t k1 k2 U B d)∧(gf≤wr.heap.size)) ?_ ?_
 ·refine sr (pf V 0 J (dG o J (aG (bO (aD ?_)))));by_cases kb:k=1
  ·refine bH (aH J (fE kb) (aE 1 J (bC J (bH (pf V 9 J (lo aB o (a5 sf Af nf cf) J J J (pf V 11 J (lo aB o (a5 sg Ag ng cg) J J J ?_))))))));have pz:ln (bW p q)≤1048576:=gY Lp;have pt:ln (cD p q)≤1048576:=i6 Lq;refine aX f (pX f.size (hp.ext f) (aJ lf J) (hq.ext f) (aJ lg J)) J ?_;rintro _ _ ⟨_,_,rfl,⟨je,jd,jx,kf,kr,iu,jg,kp,rfl,pk,qm,my⟩,rfl⟩ mg G;refine mv 1 J (aA (a9 je jd jx kf kr iu jg kp) J (aA (no (bR q)) J (pf E 0 J ?_)));have gx:=(L.ext mg);refine so bJ gx [.bool je,up jd jx kf,.bool kr,up iu jg kp,F0,S0,S0,I0,.string ⟨#[]⟩,I0] G h J J J J fun _ fo jh I=>(pf E 9 J (g9 fo [.bool je,up jd jx kf,.bool kr,up iu jg kp,F0,S0,S0,I0,.string ⟨#[]⟩,no (bR q)] J fun pr oo fk _=>?_));have H:=fk.ext I h;refine cF (bT (eO (⟨pr,⟨bW p q,cD p q,0,[],0,[],bR q⟩,⟨je,jd,jx,kf⟩,⟨kr,iu,jg,kp⟩,⟨false,none,0,0⟩,none,0⟩:a6×Ans8×ZC×ZC×ZC×Option a7×Nat) ⟨H,(by rw [kb];rfl),(((M.ext mg).vN jh).vN fk),oo,(rU ((pk.updT gx jh).updT fo fk) ((qm.updT gx jh).updT fo fk) (aJ pz J) (aJ pt J) (fun p q hp hq e=>my _ (kZ hp) (e▸kZ hq))),(a8 (a8 (a8 F mg.size) jh.by_.size) fk.by_.size)⟩ J (aP J)))
  refine bH (aH J (gC kb) (aE 1 J (aT J (aD ?_))));by_cases il:k=2
  ·refine bH (aH J (fE il) (aE 1 J (bC J (bH (pf V 1 J (lo bJ o [.bool sa,up Aa na ca,.bool sb,up Ab nb cb] J J J (pf V 5 J (lo bJ o [.bool sd,up Ad nd cd,.bool se,up Ae ne ce] J J J ?_))))))));have qd:ln (bW (x*v+u*y) (y*v))≤2097153:=gY (a8 (eK (dI Lx Lv) (dI Lu Ly)) yd);have qv:ln (cD (x*v+u*y) (y*v))≤2097152:=i6 (dI Ly Lv);refine aX f (P3 f.size (hx.ext f) (aJ la J) (hy.ext f) (aJ lb J) (hu.ext f) (aJ ld J) (hv.ext f) (aJ le J)) J ?_;rintro _ _ ⟨_,_,rfl,⟨jw,jf,ji,jq,ja,jr,kk,jb,rfl,pe,po,mx⟩,rfl⟩ mn G;refine mv 1 J (aA (a9 jw jf ji jq ja jr kk jb) J (aA (no (bR (y*v))) J (pf E 0 J ?_)));have fi:=(L.ext mn);refine so bJ fi [.bool jw,up jf ji jq,.bool ja,up jr kk jb,F0,S0,S0,I0,.string ⟨#[]⟩,I0] G h J J J J fun _ fg kj I=>(pf E 9 J (g9 fg [.bool jw,up jf ji jq,.bool ja,up jr kk jb,F0,S0,S0,I0,.string ⟨#[]⟩,no (bR (y*v))] J fun qu nu go _=>?_));have H:=go.ext I h;refine cF (bT (eO (⟨qu,⟨bW (x*v+u*y) (y*v),cD (x*v+u*y) (y*v),0,[],0,[],bR (y*v)⟩,⟨jw,jf,ji,jq⟩,⟨ja,jr,kk,jb⟩,⟨false,none,0,0⟩,none,0⟩:a6×Ans8×ZC×ZC×ZC×Option a7×Nat) ⟨H,(by rw [il];rfl),(((M.ext mn).vN kj).vN go),nu,(rU ((pe.updT fi kj).updT fg go) ((po.updT fi kj).updT fg go) (aJ qd J) (aJ qv J) (fun p q hp hq e=>mx _ (kZ hp) (e▸kZ hq))),(a8 (a8 (a8 F mn.size) kj.by_.size) go.by_.size)⟩ J (aP J)))
  refine bH (aH J (gC il) (aE 1 J (aT J (aD ?_))));by_cases ke:k=3
  ·refine bH (aH J (fE ke) (aE 1 J (bC J (bH (pf V 1 J (lo bJ o [.bool sa,up Aa na ca,.bool sb,up Ab nb cb] J J J (pf V 5 J (lo bJ o [.bool sd,up Ad nd cd,.bool se,up Ae ne ce] J J J ?_))))))));have qi:ln (bW (x*v+ -u*y) (y*v))≤2097153:=gY (a8 (eK (dI Lx Lv) (dI (show ln (-u)≤1048576 by rw [gQ];exact Lu) Ly)) yd);have qr:ln (cD (x*v+ -u*y) (y*v))≤2097152:=i6 (dI Ly Lv);refine aX f (OZ f.size (hx.ext f) (aJ la J) (hy.ext f) (aJ lb J) (hu.ext f) (aJ ld J) (hv.ext f) (aJ le J)) J ?_;rintro _ _ ⟨_,_,rfl,⟨kc,iq,jk,kg,ir,ki,ju,iy,rfl,qt,qq,om⟩,rfl⟩ kv G;refine mv 1 J (aA (a9 kc iq jk kg ir ki ju iy) J (aA (no (bR (y*v))) J (pf E 0 J ?_)));have ij:=(L.ext kv);refine so bJ ij [.bool kc,up iq jk kg,.bool ir,up ki ju iy,F0,S0,S0,I0,.string ⟨#[]⟩,I0] G h J J J J fun _ fh ix I=>(pf E 9 J (g9 fh [.bool kc,up iq jk kg,.bool ir,up ki ju iy,F0,S0,S0,I0,.string ⟨#[]⟩,no (bR (y*v))] J fun pj nh ig _=>?_));have H:=ig.ext I h;refine cF (bT (eO (⟨pj,⟨bW (x*v+ -u*y) (y*v),cD (x*v+ -u*y) (y*v),0,[],0,[],bR (y*v)⟩,⟨kc,iq,jk,kg⟩,⟨ir,ki,ju,iy⟩,⟨false,none,0,0⟩,none,0⟩:a6×Ans8×ZC×ZC×ZC×Option a7×Nat) ⟨H,(by rw [ke];rfl),(((M.ext kv).vN ix).vN ig),nh,(rU ((qt.updT ij ix).updT fh ig) ((qq.updT ij ix).updT fh ig) (aJ qi J) (aJ qr J) (fun p q hp hq e=>om _ (kZ hp) (e▸kZ hq))),(a8 (a8 (a8 F kv.size) ix.by_.size) ig.by_.size)⟩ J (aP J)))
  refine bH (aH J (gC ke) (aE 1 J (aT J (aD ?_))));by_cases jz:k=4
  ·refine bH (aH J (fE jz) (aE 1 J (bC J (bH (pf V 1 J (lo bJ o [.bool sa,up Aa na ca,.bool sb,up Ab nb cb] J J J (pf V 5 J (lo bJ o [.bool sd,up Ad nd cd,.bool se,up Ae ne ce] J J J ?_))))))));have qh:ln (bW (x*u) (y*v))≤2097152:=gY (dI Lx Lu);have ph:ln (cD (x*u) (y*v))≤2097152:=i6 (dI Ly Lv);refine aX f (a1U f.size (hx.ext f) (aJ la J) (hy.ext f) (aJ lb J) (hu.ext f) (aJ ld J) (hv.ext f) (aJ le J)) J ?_;rintro _ _ ⟨_,_,rfl,⟨jp,iz,ka,jc,kd,jo,kn,jv,rfl,qw,qg,mr⟩,rfl⟩ lp G;refine mv 1 J (aA (a9 jp iz ka jc kd jo kn jv) J (aA (no (bR (y*v))) J (pf E 0 J ?_)));have gy:=(L.ext lp);refine so bJ gy [.bool jp,up iz ka jc,.bool kd,up jo kn jv,F0,S0,S0,I0,.string ⟨#[]⟩,I0] G h J J J J fun _ ft io I=>(pf E 9 J (g9 ft [.bool jp,up iz ka jc,.bool kd,up jo kn jv,F0,S0,S0,I0,.string ⟨#[]⟩,no (bR (y*v))] J fun qe nk ib _=>?_));have H:=ib.ext I h;refine cF (bT (eO (⟨qe,⟨bW (x*u) (y*v),cD (x*u) (y*v),0,[],0,[],bR (y*v)⟩,⟨jp,iz,ka,jc⟩,⟨kd,jo,kn,jv⟩,⟨false,none,0,0⟩,none,0⟩:a6×Ans8×ZC×ZC×ZC×Option a7×Nat) ⟨H,(by rw [jz];rfl),(((M.ext lp).vN io).vN ib),nk,(rU ((qw.updT gy io).updT ft ib) ((qg.updT gy io).updT ft ib) (aJ qh J) (aJ ph J) (fun p q hp hq e=>mr _ (kZ hp) (e▸kZ hq))),(a8 (a8 (a8 F lp.size) io.by_.size) ib.by_.size)⟩ J (aP J)))
  refine bH (aH J (gC jz) (aE 1 J (aT J (aD ?_))));by_cases jj:k=5
  ·refine bH (aH J (fE jj) (aE 1 J (bC J (bH (pf V 1 J (lo bJ o [.bool sa,up Aa na ca,.bool sb,up Ab nb cb] J J J (pf V 5 J (lo bJ o [.bool sd,up Ad nd cd,.bool se,up Ae ne ce] J J J ?_))))))));have pm:ln (l9 x y u v)≤2097152:=MZ Lx Lv;have py:ln (lB x y u v)≤2097152:=N0 Ly Lu;refine aX f (a1V f.size (hx.ext f) (aJ la J) (hy.ext f) (aJ lb J) (hu.ext f) (aJ ld J) (hv.ext f) (aJ le J)) J ?_;rintro _ _ ⟨_,_,rfl,⟨dz,ef,eh,bi,en,ar,dy,av,rfl,oq,oe,mc⟩,rfl⟩ eP G;refine mv 1 J (aA (a9 dz ef eh bi en ar dy av) J (aA (no (lA y u v)) J (pf E 0 J ?_)));have ag:=(L.ext eP);refine so bJ ag [.bool dz,up ef eh bi,.bool en,up ar dy av,F0,S0,S0,I0,.string ⟨#[]⟩,I0] G h J J J J fun _ ak el I=>(pf E 9 J (g9 ak [.bool dz,up ef eh bi,.bool en,up ar dy av,F0,S0,S0,I0,.string ⟨#[]⟩,no (lA y u v)] J fun nw mb Z _=>?_));have H:=Z.ext I h;refine cF (bT (eO (⟨nw,⟨l9 x y u v,lB x y u v,0,[],0,[],lA y u v⟩,⟨dz,ef,eh,bi⟩,⟨en,ar,dy,av⟩,⟨false,none,0,0⟩,none,0⟩:a6×Ans8×ZC×ZC×ZC×Option a7×Nat) ⟨H,(by rw [jj];rfl),(((M.ext eP).vN el).vN Z),mb,(rU ((oq.updT ag el).updT ak Z) ((oe.updT ag el).updT ak Z) (aJ pm J) (aJ py J) (fun p q hp hq e=>mc _ (kZ hp) (e▸kZ hq))),(a8 (a8 (a8 F eP.size) el.by_.size) Z.by_.size)⟩ J (aP J)))
  refine bH (aH J (gC jj) (aE 1 J (aT J (aD ?_))));by_cases jy:k=6
  ·refine bH (aH J (fE jy) (aE 1 J (bC J (bH (pf V 1 J (lo bJ o [.bool sa,up Aa na ca,.bool sb,up Ab nb cb] J J J (pf V 5 J (lo bJ o [.bool sd,up Ad nd cd,.bool se,up Ae ne ce] J J J (aX f (a1W (hx.ext f) (aJ la J) (hy.ext f) (aJ lb J) (hu.ext f) (aJ ld J) (hv.ext f) (aJ le J)) J ?_)))))))));rintro _ _ ⟨_,_,rfl,rfl,rfl⟩ fx G;refine mv 1 J (aA (no (bM (bW (x*v+ -u*y) (y*v)) 0)) J (aA (no (bR (y*v))) J (pf E 7 J ?_)));refine g9 (L.ext fx) [F0,S0,F0,S0,F0,S0,S0,no (bM (bW (x*v+ -u*y) (y*v)) 0),.string ⟨#[]⟩,I0] J fun _ lu gb _=>?_;have I:=gb.ext G h;refine pf E 9 J (g9 lu [F0,S0,F0,S0,F0,S0,S0,no (bM (bW (x*v+ -u*y) (y*v)) 0),.string ⟨#[]⟩,no (bR (y*v))] J fun mu lv fv _=>?_);have H:=fv.ext I h;refine cF (bT (eO (⟨mu,⟨0,0,0,[],bM (bW (x*v+ -u*y) (y*v)) 0,[],bR (y*v)⟩,⟨false,none,0,0⟩,⟨false,none,0,0⟩,⟨false,none,0,0⟩,none,0⟩:a6×Ans8×ZC×ZC×ZC×Option a7×Nat) ⟨H,(by rw [jy];rfl),(((M.ext fx).vN gb).vN fv),lv,(F7 pN),(a8 (a8 (a8 F fx.size) gb.by_.size) fv.by_.size)⟩ J (aP J)))
  refine bH (aH J (gC jy) (aE 1 J (aT J (aD ?_))));by_cases jl:k=7
  ·refine bH (aH J (fE jl) (aE 1 J (bC J (bH (pf V 1 J (lo bJ o [.bool sa,up Aa na ca,.bool sb,up Ab nb cb] J J J ?_))))));have ny:ln (qF x y)≤1048578:=MU Lx;refine aX f (U2 f.size (hx.ext f) (aJ la J) (hy.ext f) (aJ lb J)) J ?_;rintro _ _ ⟨_,_,rfl,⟨ew,ch,bo,az,rfl,nj⟩,rfl⟩ gk G;refine mv 1 J (aA (O ew ch bo az) J (aA (no (eZ y)) J (pf E 4 J ?_)));have ie:=(L.ext gk);refine so aB ie [F0,S0,F0,S0,.bool ew,up ch bo az,S0,I0,.string ⟨#[]⟩,I0] G h J J J J fun _ ik fq I=>(pf E 9 J (g9 ik [F0,S0,F0,S0,.bool ew,up ch bo az,S0,I0,.string ⟨#[]⟩,no (eZ y)] J fun nx ku bm _=>?_));have H:=bm.ext I h;refine cF (bT (eO (⟨nx,⟨0,0,qF x y,[],0,[],eZ y⟩,⟨false,none,0,0⟩,⟨false,none,0,0⟩,⟨ew,ch,bo,az⟩,none,0⟩:a6×Ans8×ZC×ZC×ZC×Option a7×Nat) ⟨H,(by rw [jl];rfl),(((M.ext gk).vN fq).vN bm),ku,(NR ((nj.updT ie fq).updT ik bm) (aJ ny J)),(a8 (a8 (a8 F gk.size) fq.by_.size) bm.by_.size)⟩ J (aP J)))
  refine bH (aH J (gC jl) (aE 1 J (aT J (aD ?_))));by_cases jm:k=8
  ·refine bH (aH J (fE jm) (aE 1 J (bC J (bH (pf V 1 J (lo bJ o [.bool sa,up Aa na ca,.bool sb,up Ab nb cb] J J J ?_))))));have nt:ln (nA x y)≤1048577:=MW Lx;refine aX f (U1 f.size (hx.ext f) (aJ la J) (hy.ext f) (aJ lb J)) J ?_;rintro _ _ ⟨_,_,rfl,⟨du,br,dt,eg,rfl,oh⟩,rfl⟩ gi G;refine mv 1 J (aA (O du br dt eg) J (aA (no (bR y)) J (pf E 4 J ?_)));have fz:=(L.ext gi);refine so aB fz [F0,S0,F0,S0,.bool du,up br dt eg,S0,I0,.string ⟨#[]⟩,I0] G h J J J J fun _ fp ge I=>(pf E 9 J (g9 fp [F0,S0,F0,S0,.bool du,up br dt eg,S0,I0,.string ⟨#[]⟩,no (bR y)] J fun nl mi dh _=>?_));have H:=dh.ext I h;refine cF (bT (eO (⟨nl,⟨0,0,nA x y,[],0,[],bR y⟩,⟨false,none,0,0⟩,⟨false,none,0,0⟩,⟨du,br,dt,eg⟩,none,0⟩:a6×Ans8×ZC×ZC×ZC×Option a7×Nat) ⟨H,(by rw [jm];rfl),(((M.ext gi).vN ge).vN dh),mi,(NR ((oh.updT fz ge).updT fp dh) (aJ nt J)),(a8 (a8 (a8 F gi.size) ge.by_.size) dh.by_.size)⟩ J (aP J)))
  refine bH (aH J (gC jm) (aE 1 J (aT J (aD ?_))));by_cases ko:k=9
  ·refine bH (aH J (fE ko) (aE 1 J (bC J (bH (pf V 1 J (lo bJ o [.bool sa,up Aa na ca,.bool sb,up Ab nb cb] J J J (aX f (TZ (hx.ext f) (aJ la J) (hy.ext f) (aJ lb J) (hS.ext f)) J ?_)))))));rintro _ _ ⟨_,_,rfl,rfl,rfl⟩ fw G;refine mv 1 J (aA (.string (aN (kV x y))) J (aA (no (bR y)) J (pf E 8 J ?_)));refine g9 (L.ext fw) [F0,S0,F0,S0,F0,S0,S0,I0,.string (aN (kV x y)),I0] J fun _ lh fj _=>?_;have I:=fj.ext G h;refine pf E 9 J (g9 lh [F0,S0,F0,S0,F0,S0,S0,I0,.string (aN (kV x y)),no (bR y)] J fun mz lm ga _=>?_);have H:=ga.ext I h;refine cF (bT (eO (⟨mz,⟨0,0,0,[],0,kV x y,bR y⟩,⟨false,none,0,0⟩,⟨false,none,0,0⟩,⟨false,none,0,0⟩,none,0⟩:a6×Ans8×ZC×ZC×ZC×Option a7×Nat) ⟨H,(by rw [ko];rfl),(((M.ext fw).vN fj).vN ga),lm,(F7 IR),(a8 (a8 (a8 F fw.size) fj.by_.size) ga.by_.size)⟩ J (aP J)))
  refine bH (aH J (gC ko) (aE 1 J (aT J (aD ?_))));by_cases fa:k=10
  ·refine bH (aH J (fE fa) (aE 1 J (bC J (bH (pf V 13 J (dG o J (dP [.string (aN bs)] ((vA hbs hlen).2.2 f.size).2 J ?_)))))));rintro _ _ ⟨_,rfl,oi,ci⟩;refine dO ?_;have G:=f.trans ci;obtain⟨_,_,rfl,⟨au,da,aw,dr,de,cj,dl,em,rfl,oy,mp,kx⟩,rfl⟩:=oi;refine mv 1 J (aA (a9 au da aw dr de cj dl em) J (aA (no ((fT bs).2.2)) J (pf E 0 J ?_)));have ao:=(L.ext ci);refine so bJ ao [.bool au,up da aw dr,.bool de,up cj dl em,F0,S0,S0,I0,.string ⟨#[]⟩,I0] G h J J J J fun _ ae bp I=>(pf E 9 J (g9 ae [.bool au,up da aw dr,.bool de,up cj dl em,F0,S0,S0,I0,.string ⟨#[]⟩,no ((fT bs).2.2)] J fun mq ks Y _=>?_));have H:=Y.ext I h;refine cF (bT (eO (⟨mq,⟨(fT bs).1,(fT bs).2.1,0,[],0,[],(fT bs).2.2⟩,⟨au,da,aw,dr⟩,⟨de,cj,dl,em⟩,⟨false,none,0,0⟩,none,0⟩:a6×Ans8×ZC×ZC×ZC×Option a7×Nat) ⟨H,(by rw [fa];rfl),(((M.ext ci).vN bp).vN Y),ks,(rU ((oy.updT ao bp).updT ae Y) ((mp.updT ao bp).updT ae Y) (a8 (vA hbs hlen).1 yd) (a8 (vA hbs hlen).2.1 yd) (fun p q hp hq e=>kx _ (kZ hp) (e▸kZ hq))),(a8 (a8 (a8 F ci.size) bp.by_.size) Y.by_.size)⟩ J (aP J)))
  refine bH (aH J (gC fa) (aE 1 J (aT J (aD ?_))));by_cases aq:k=11
  ·refine bH (aH J (fE aq) (aE 1 J (bC J (bH (pf V 1 J (lo bJ o [.bool sa,up Aa na ca,.bool sb,up Ab nb cb] J J J ?_))))));have qy:V<aa.heap.size:=o.lt;have rc:g6<aa.heap.size:=M.lt;have qz:E<aa.heap.size:=L.lt;have oz:gf≤aa.heap.size:=F;refine aX f (U3 f.size (hx.ext f) (aJ la J) (hy.ext f) (aJ lb J)) J ?_;rintro _ _ ⟨_,_,rfl,⟨bd,fc,rfl,fm⟩,r193_1⟩ gg G;have bj:=fm.block;obtain rfl:=r193_1;refine mv 1 J (aA (up bd ((lD x y).length) fc) J (aA (no (bR y)) J (pf E 6 J ?_)));have fe:=(L.ext gg);refine g9 fe [F0,S0,F0,S0,F0,S0,up bd ((lD x y).length) fc,I0,.string ⟨#[]⟩,I0] J fun _ fy cp _=>?_;have I:=cp.ext G h;refine pf E 9 J (g9 fy [F0,S0,F0,S0,F0,S0,up bd ((lD x y).length) fc,I0,.string ⟨#[]⟩,no (bR y)] J fun nz mf bw _=>?_);have H:=bw.ext I h;refine cF (bT (eO (⟨nz,⟨0,0,0,lD x y,0,[],bR y⟩,⟨false,none,0,0⟩,⟨false,none,0,0⟩,⟨false,none,0,0⟩,bd,fc⟩:a6×Ans8×ZC×ZC×ZC×Option a7×Nat) ⟨H,(by rw [aq];rfl),(((M.ext gg).vN cp).vN bw),mf,(a0w ((((fm.updT fe cp (fun p hp=>by have:=bj p hp;omega)).updT fy bw (fun p hp=>by have:=bj p hp;omega))).mono (aU _) (aU _) oz) (PY Lx Ly)),(a8 (a8 (a8 F gg.size) cp.by_.size) bw.by_.size)⟩ J (aP J)))
  refine bH (aH J (gC aq) (aE 1 J (aT J (aD ?_))));by_cases fd:k=12
  ·refine bH (aH J (fE fd) (aE 1 J (bC J (bH (pf V 14 J (dG o J (bI [up C n c] f (TY f.size (hl.ext f) hn hmb hnd) J ?_)))))));rintro _ _ ⟨_,_,rfl,⟨bu,ee,ba,bf,dm,ez,ej,dg,rfl,ow,oa,kw⟩,rfl⟩ ia G;refine mv 1 J (aA (a9 bu ee ba bf dm ez ej dg) J (aA (no (mV zs)) J (pf E 0 J ?_)));have ai:=(L.ext ia);refine so bJ ai [.bool bu,up ee ba bf,.bool dm,up ez ej dg,F0,S0,S0,I0,.string ⟨#[]⟩,I0] G h J J J J fun _ ah df I=>(pf E 9 J (g9 ah [.bool bu,up ee ba bf,.bool dm,up ez ej dg,F0,S0,S0,I0,.string ⟨#[]⟩,no (mV zs)] J fun ot md X _=>?_));have H:=X.ext I h;refine cF (bT (eO (⟨ot,⟨oL zs,oM zs,0,[],0,[],mV zs⟩,⟨bu,ee,ba,bf⟩,⟨dm,ez,ej,dg⟩,⟨false,none,0,0⟩,none,0⟩:a6×Ans8×ZC×ZC×ZC×Option a7×Nat) ⟨H,(by rw [fd];rfl),(((M.ext ia).vN df).vN X),md,(rU ((ow.updT ai df).updT ah X) ((oa.updT ai df).updT ah X) (a8 (BB hnd).1 yd) (a8 (BB hnd).2 yd) (fun p q hp hq e=>kw _ (kZ hp) (e▸kZ hq))),(a8 (a8 (a8 F ia.size) df.by_.size) X.by_.size)⟩ J (aP J)))
  refine bH (aH J (gC fd) (aE 1 J (aT J (aD ?_))));by_cases dx:k=13
  ·refine bH (aH J (fE dx) (aE 1 J (bC J (bH (pf V 9 J (lo aB o (a5 sf Af nf cf) J J J (pf V 11 J (lo aB o (a5 sg Ag ng cg) J J J (aX f (a1T f.size (hp.ext f) (aJ lf J) (hq.ext f) (aJ lg J)) J ?_)))))))));rintro _ _ ⟨_,_,rfl,⟨dw,cz,ey,bh,ei,bg,fb,cm,rfl,mt,ov,lj⟩,rfl⟩ gj G;refine mv 1 J (aA (a9 dw cz ey bh ei bg fb cm) J (aA (no (kB q p)) J (pf E 0 J ?_)));have aj:=(L.ext gj);refine so bJ aj [.bool dw,up cz ey bh,.bool ei,up bg fb cm,F0,S0,S0,I0,.string ⟨#[]⟩,I0] G h J J J J fun _ am ct I=>(pf E 9 J (g9 am [.bool dw,up cz ey bh,.bool ei,up bg fb cm,F0,S0,S0,I0,.string ⟨#[]⟩,no (kB q p)] J fun mw kz ab _=>?_));have H:=ab.ext I h;refine cF (bT (eO (⟨mw,⟨kW q p,kX q p,0,[],0,[],kB q p⟩,⟨dw,cz,ey,bh⟩,⟨ei,bg,fb,cm⟩,⟨false,none,0,0⟩,none,0⟩:a6×Ans8×ZC×ZC×ZC×Option a7×Nat) ⟨H,(by rw [dx];rfl),(((M.ext gj).vN ct).vN ab),kz,(rU ((mt.updT aj ct).updT am ab) ((ov.updT aj ct).updT am ab) (a8 (BC Lq).1 yd) (a8 (BC Lq).2 yd) (fun p q hp hq e=>lj _ (kZ hp) (e▸kZ hq))),(a8 (a8 (a8 F gj.size) ct.by_.size) ab.by_.size)⟩ J (aP J)))
  refine bH (aH J (gC dx) (aE 1 J (aT J (bB (bT (eO (⟨aa,⟨0,0,0,[],0,[],0⟩,⟨false,none,0,0⟩,⟨false,none,0,0⟩,⟨false,none,0,0⟩,none,0⟩:a6×Ans8×ZC×ZC×ZC×Option a7×Nat) ⟨f,(by unfold mX;rw [if_neg kb,if_neg il,if_neg ke,if_neg jz,if_neg jj,if_neg jy,if_neg jl,if_neg jm,if_neg ko,if_neg fa,if_neg aq,if_neg fd,if_neg dx]),M,L,(F7 pN),F⟩ J (aP J)))))))
 rintro⟨wr,t,k1,k2,U,B,d⟩ ⟨ky,ht,b_2,b_3,hj,_⟩;refine fW [(2,i5 g6 0),(3,i5 E 0)] wr J (aP J) ?_;obtain⟨pg,qp,pq,kq,qf,px⟩:=hj;have pd:=kq.block;have mj:∀p,B=some p→p.block≠g6:=fun p hp=>by have:=kq.block p hp;omega
 have qo:∀p,B=some p→p.block≠E:=fun p hp=>by have:=kq.block p hp;omega
 refine sr (lo iC b_3 [.bool k1.s,up k1.A k1.n k1.c,.bool k2.s,up k2.A k2.n k2.c,.bool U.s,up U.A U.n U.c,up B t.L.length d,no t.N,.string (aN t.S),no t.E] J J J ?_);have W:=b_2;refine so iC W [.bool k1.s,up k1.A k1.n k1.c,.bool k2.s,up k2.A k2.n k2.c,.bool U.s,up U.A U.n U.c,up B t.L.length d,no t.N,.string (aN t.S),no t.E] ky ni J J J J fun _ ll cv mh=>(aG (bA (aZ [.agg #[.bool k1.s,up k1.A k1.n k1.c,.bool k2.s,up k2.A k2.n k2.c,.bool U.s,up U.A U.n U.c,up B t.L.length d,no t.N,.string (aN t.S),no t.E]] J ⟨⟨_,rfl,bK iC ll [.bool k1.s,up k1.A k1.n k1.c,.bool k2.s,up k2.A k2.n k2.c,.bool U.s,up U.A U.n U.c,up B t.L.length d,no t.N,.string (aN t.S),no t.E] J (bq J) rfl⟩,xl⟩ ?_)));exact⟨_,rfl,AnsA8.of ht ⟨_,_,_,_,_,_,_,_,_,_,_,_,_,_,rfl,(pg.updT W cv),(qp.updT W cv),(pq.updT W cv),(((kq.updT W cv mj)).mono (aU _) (aU _) kt),qf,px⟩,mh⟩
theorem a1w (hb:b≤w.heap.size){k:Int}(h:Op8 w k x y u v p q bs zs n vv)(hbs:∀b,b∈bs→b<256)(hlen:bs.length≤1048576)(hS:Signs w):aQ aM 8 #[vv] w (Gv w (AnsA8 b (mX k x y u v p q bs zs))):=by
 obtain⟨sa,Aa,na,ca,sb,Ab,nb,cb,sd,Ad,nd,cd,se,Ae,ne,ce,sf,Af,nf,cf,sg,Ag,ng,cg,C,c,ms,rfl,h1,h2,U,L,M,V,W,X,Y,H,E,o,G,I,F,f⟩:=h;exact (a1v h1 h2 U L M V W X Y H E o G I F f hbs hlen hS).mono (Gv.imp (AnsA8.imp hb))
theorem a00 {k:Int}{nb:Nat}{nd:Nat}{sg:Bool}(hx:Zi w sa Aa na ca x)(la:na≤1048576)(hy:Zi w sb Ab nb cb y)(lb:nb≤1048576)(hu:Zi w sd Ad nd cd u)(ld:nd≤1048576)(hv:Zi w se Ae ne ce v)(le:ne≤1048576)(hp:Zi w sf Af nf cf p)(lf:nf≤1048576)(hq:Zi w sg Ag ng cg q)(lg:ng≤1048576)(hl:Zl w C n c zs ms)(hn:n≤1048576)(hmb:∀i,ms.getD i 0≤1048576)(hnd:yP zs)(hbs:∀b,b∈bs→b<256)(hlen:bs.length≤1048576):aQ aM 5 #[.agg #[no k,.bool sa,up Aa na ca,.bool sb,up Ab nb cb,.bool sd,up Ad nd cd,.bool se,up Ae ne ce,.bool sf,up Af nf cf,.bool sg,up Ag ng cg,.string (aN bs),up C n c]] w (Gv w (AnsR8 w.heap.size (mX k x y u v p q bs zs))):=by
 have Lx:=bP hx la;have Ly:=bP hy lb;have Lu:=bP hu ld;have Lv:=bP hv le;have Lp:=bP hp lf;have Lq:=bP hq lg;refine bU Tryz.func5 152 J (sr (bx [no k,.bool sa,up Aa na ca,.bool sb,up Ab nb cb,.bool sd,up Ad nd cd,.bool se,up Ae ne ce,.bool sf,up Af nf cf,.bool sg,up Ag ng cg,.string (aN bs),up C n c] bN J J J fun V _ lp _ _ kw=>(bV [F0,S0,F0,S0,F0,S0,S0,I0,.string ⟨#[]⟩,I0] kw lp.lt J fun g6 _ ma mt _ e8 md=>(aG (sr (aA (.agg #[F0,S0,F0,S0,F0,S0,S0,I0,.string ⟨#[]⟩,I0]) J (bV [F0,S0,F0,S0,F0,S0,S0,I0,.string ⟨#[]⟩,I0] md ma.lt J fun E _ oa h _ jt px=>(so iC oa [F0,S0,F0,S0,F0,S0,S0,I0,.string ⟨#[]⟩,I0] px h J J J J fun aa L iw f=>(aG ?_)))))))));obtain⟨gf,F,_,kt,_,_,_⟩:∃lb,lb≤aa.heap.size∧aa.heap.size≤lb∧w.heap.size≤lb∧V<lb∧g6<lb∧E<lb:=⟨aa.heap.size,aU _,aU _,f.size,((lp.ext (e8.t jt)).vN iw).lt,((ma.ext jt).vN iw).lt,L.lt⟩;have M:=((ma.ext jt).vN iw);have o:=((lp.ext (e8.t jt)).vN iw);refine tZ (T:=a6×Ans8×ZC×ZC×ZC×Option a7×Nat) (fun⟨wr,t,k1,k2,U,B,d⟩=> [(2,i5 g6 0),(3,i5 E 0)]) (fun⟨wr,t,k1,k2,U,B,d⟩=>wr) (fun⟨wr,t,k1,k2,U,B,d⟩=>(Ext w wr)∧(mX k x y u v p q bs zs=t)∧(Bk wr g6 33 [F0,S0,F0,S0,F0,S0,S0,I0,.string ⟨#[]⟩,I0])∧(Bk wr E 33 [.bool k1.s,up k1.A k1.n k1.c,.bool k2.s,up k2.A k2.n k2.c,.bool U.s,up U.A U.n U.c,up B t.L.length d,no t.N,.string (aN t.S),no t.E])∧(J8 wr w.heap.size gf t k1 k2 U B d)∧(gf≤wr.heap.size)) ?_ ?_
 ·refine sr (pf V 0 J (dG o J (aG (bO (aD ?_)))));by_cases kb:k=1
  ·refine bH (aH J (fE kb) (aE 1 J (bC J (bH (pf V 9 J (lo aB o (a5 sf Af nf cf) J J J (pf V 11 J (lo aB o (a5 sg Ag ng cg) J J J ?_))))))));have pj:ln (bW p q)≤1048576:=gY Lp;have pg:ln (cD p q)≤1048576:=i6 Lq;refine aX f (rL f.size (hp.ext f) (aJ lf J) (hq.ext f) (aJ lg J)) J ?_;rintro _ _ ⟨_,_,rfl,⟨je,jd,jx,kf,kr,iu,jg,kp,rfl,ow,py⟩,rfl⟩ mc G;refine mv 1 J (aA (a9 je jd jx kf kr iu jg kp) J (aA (no (bR q)) J (pf E 0 J ?_)));have gx:=(L.ext mc);refine so bJ gx [.bool je,up jd jx kf,.bool kr,up iu jg kp,F0,S0,S0,I0,.string ⟨#[]⟩,I0] G h J J J J fun _ fo jh I=>(pf E 9 J (g9 fo [.bool je,up jd jx kf,.bool kr,up iu jg kp,F0,S0,S0,I0,.string ⟨#[]⟩,no (bR q)] J fun pe nx fk _=>?_));have H:=fk.ext I h;refine cF (bT (eO (⟨pe,⟨bW p q,cD p q,0,[],0,[],bR q⟩,⟨je,jd,jx,kf⟩,⟨kr,iu,jg,kp⟩,⟨false,none,0,0⟩,none,0⟩:a6×Ans8×ZC×ZC×ZC×Option a7×Nat) ⟨H,(by rw [kb];rfl),(((M.ext mc).vN jh).vN fk),nx,(rW ((ow.updT gx jh).updT fo fk) ((py.updT gx jh).updT fo fk) (aJ pj J) (aJ pg J)),(a8 (a8 (a8 F mc.size) jh.by_.size) fk.by_.size)⟩ J (aP J)))
  refine bH (aH J (gC kb) (aE 1 J (aT J (aD ?_))));by_cases il:k=2
  ·refine bH (aH J (fE il) (aE 1 J (bC J (bH (pf V 1 J (lo bJ o [.bool sa,up Aa na ca,.bool sb,up Ab nb cb] J J J (pf V 5 J (lo bJ o [.bool sd,up Ad nd cd,.bool se,up Ae ne ce] J J J ?_))))))));have pk:ln (bW (x*v+u*y) (y*v))≤2097153:=gY (a8 (eK (dI Lx Lv) (dI Lu Ly)) yd);have qi:ln (cD (x*v+u*y) (y*v))≤2097152:=i6 (dI Ly Lv);refine aX f (L9 f.size (hx.ext f) (aJ la J) (hy.ext f) (aJ lb J) (hu.ext f) (aJ ld J) (hv.ext f) (aJ le J)) J ?_;rintro _ _ ⟨_,_,rfl,⟨jw,jf,ji,jq,ja,jr,kk,jb,rfl,oq,oz⟩,rfl⟩ mg G;refine mv 1 J (aA (a9 jw jf ji jq ja jr kk jb) J (aA (no (bR (y*v))) J (pf E 0 J ?_)));have fi:=(L.ext mg);refine so bJ fi [.bool jw,up jf ji jq,.bool ja,up jr kk jb,F0,S0,S0,I0,.string ⟨#[]⟩,I0] G h J J J J fun _ fg kj I=>(pf E 9 J (g9 fg [.bool jw,up jf ji jq,.bool ja,up jr kk jb,F0,S0,S0,I0,.string ⟨#[]⟩,no (bR (y*v))] J fun qh mz go _=>?_));have H:=go.ext I h;refine cF (bT (eO (⟨qh,⟨bW (x*v+u*y) (y*v),cD (x*v+u*y) (y*v),0,[],0,[],bR (y*v)⟩,⟨jw,jf,ji,jq⟩,⟨ja,jr,kk,jb⟩,⟨false,none,0,0⟩,none,0⟩:a6×Ans8×ZC×ZC×ZC×Option a7×Nat) ⟨H,(by rw [il];rfl),(((M.ext mg).vN kj).vN go),mz,(rW ((oq.updT fi kj).updT fg go) ((oz.updT fi kj).updT fg go) (aJ pk J) (aJ qi J)),(a8 (a8 (a8 F mg.size) kj.by_.size) go.by_.size)⟩ J (aP J)))
  refine bH (aH J (gC il) (aE 1 J (aT J (aD ?_))));by_cases ke:k=3
  ·refine bH (aH J (fE ke) (aE 1 J (bC J (bH (pf V 1 J (lo bJ o [.bool sa,up Aa na ca,.bool sb,up Ab nb cb] J J J (pf V 5 J (lo bJ o [.bool sd,up Ad nd cd,.bool se,up Ae ne ce] J J J ?_))))))));have pt:ln (bW (x*v+ -u*y) (y*v))≤2097153:=gY (a8 (eK (dI Lx Lv) (dI (show ln (-u)≤1048576 by rw [gQ];exact Lu) Ly)) yd);have qf:ln (cD (x*v+ -u*y) (y*v))≤2097152:=i6 (dI Ly Lv);refine aX f (L6 f.size (hx.ext f) (aJ la J) (hy.ext f) (aJ lb J) (hu.ext f) (aJ ld J) (hv.ext f) (aJ le J)) J ?_;rintro _ _ ⟨_,_,rfl,⟨kc,iq,jk,kg,ir,ki,ju,iy,rfl,qg,qe⟩,rfl⟩ kv G;refine mv 1 J (aA (a9 kc iq jk kg ir ki ju iy) J (aA (no (bR (y*v))) J (pf E 0 J ?_)));have ij:=(L.ext kv);refine so bJ ij [.bool kc,up iq jk kg,.bool ir,up ki ju iy,F0,S0,S0,I0,.string ⟨#[]⟩,I0] G h J J J J fun _ fh ix I=>(pf E 9 J (g9 fh [.bool kc,up iq jk kg,.bool ir,up ki ju iy,F0,S0,S0,I0,.string ⟨#[]⟩,no (bR (y*v))] J fun ov mr ig _=>?_));have H:=ig.ext I h;refine cF (bT (eO (⟨ov,⟨bW (x*v+ -u*y) (y*v),cD (x*v+ -u*y) (y*v),0,[],0,[],bR (y*v)⟩,⟨kc,iq,jk,kg⟩,⟨ir,ki,ju,iy⟩,⟨false,none,0,0⟩,none,0⟩:a6×Ans8×ZC×ZC×ZC×Option a7×Nat) ⟨H,(by rw [ke];rfl),(((M.ext kv).vN ix).vN ig),mr,(rW ((qg.updT ij ix).updT fh ig) ((qe.updT ij ix).updT fh ig) (aJ pt J) (aJ qf J)),(a8 (a8 (a8 F kv.size) ix.by_.size) ig.by_.size)⟩ J (aP J)))
  refine bH (aH J (gC ke) (aE 1 J (aT J (aD ?_))));by_cases jz:k=4
  ·refine bH (aH J (fE jz) (aE 1 J (bC J (bH (pf V 1 J (lo bJ o [.bool sa,up Aa na ca,.bool sb,up Ab nb cb] J J J (pf V 5 J (lo bJ o [.bool sd,up Ad nd cd,.bool se,up Ae ne ce] J J J ?_))))))));have pr:ln (bW (x*u) (y*v))≤2097152:=gY (dI Lx Lu);have ou:ln (cD (x*u) (y*v))≤2097152:=i6 (dI Ly Lv);refine aX f (XN f.size (hx.ext f) (aJ la J) (hy.ext f) (aJ lb J) (hu.ext f) (aJ ld J) (hv.ext f) (aJ le J)) J ?_;rintro _ _ ⟨_,_,rfl,⟨jp,iz,ka,jc,kd,jo,kn,jv,rfl,qj,pq⟩,rfl⟩ lj G;refine mv 1 J (aA (a9 jp iz ka jc kd jo kn jv) J (aA (no (bR (y*v))) J (pf E 0 J ?_)));have gy:=(L.ext lj);refine so bJ gy [.bool jp,up iz ka jc,.bool kd,up jo kn jv,F0,S0,S0,I0,.string ⟨#[]⟩,I0] G h J J J J fun _ ft io I=>(pf E 9 J (g9 ft [.bool jp,up iz ka jc,.bool kd,up jo kn jv,F0,S0,S0,I0,.string ⟨#[]⟩,no (bR (y*v))] J fun pm mw ib _=>?_));have H:=ib.ext I h;refine cF (bT (eO (⟨pm,⟨bW (x*u) (y*v),cD (x*u) (y*v),0,[],0,[],bR (y*v)⟩,⟨jp,iz,ka,jc⟩,⟨kd,jo,kn,jv⟩,⟨false,none,0,0⟩,none,0⟩:a6×Ans8×ZC×ZC×ZC×Option a7×Nat) ⟨H,(by rw [jz];rfl),(((M.ext lj).vN io).vN ib),mw,(rW ((qj.updT gy io).updT ft ib) ((pq.updT gy io).updT ft ib) (aJ pr J) (aJ ou J)),(a8 (a8 (a8 F lj.size) io.by_.size) ib.by_.size)⟩ J (aP J)))
  refine bH (aH J (gC jz) (aE 1 J (aT J (aD ?_))));by_cases jj:k=5
  ·refine bH (aH J (fE jj) (aE 1 J (bC J (bH (pf V 1 J (lo bJ o [.bool sa,up Aa na ca,.bool sb,up Ab nb cb] J J J (pf V 5 J (lo bJ o [.bool sd,up Ad nd cd,.bool se,up Ae ne ce] J J J ?_))))))));have oy:ln (l9 x y u v)≤2097152:=MZ Lx Lv;have ph:ln (lB x y u v)≤2097152:=N0 Ly Lu;refine aX f (XP f.size (hx.ext f) (aJ la J) (hy.ext f) (aJ lb J) (hu.ext f) (aJ ld J) (hv.ext f) (aJ le J)) J ?_;rintro _ _ ⟨_,_,rfl,⟨dz,ef,eh,bi,en,ar,dy,av,rfl,ny,nt⟩,rfl⟩ eP G;refine mv 1 J (aA (a9 dz ef eh bi en ar dy av) J (aA (no (lA y u v)) J (pf E 0 J ?_)));have ag:=(L.ext eP);refine so bJ ag [.bool dz,up ef eh bi,.bool en,up ar dy av,F0,S0,S0,I0,.string ⟨#[]⟩,I0] G h J J J J fun _ ak el I=>(pf E 9 J (g9 ak [.bool dz,up ef eh bi,.bool en,up ar dy av,F0,S0,S0,I0,.string ⟨#[]⟩,no (lA y u v)] J fun nh lu Z _=>?_));have H:=Z.ext I h;refine cF (bT (eO (⟨nh,⟨l9 x y u v,lB x y u v,0,[],0,[],lA y u v⟩,⟨dz,ef,eh,bi⟩,⟨en,ar,dy,av⟩,⟨false,none,0,0⟩,none,0⟩:a6×Ans8×ZC×ZC×ZC×Option a7×Nat) ⟨H,(by rw [jj];rfl),(((M.ext eP).vN el).vN Z),lu,(rW ((ny.updT ag el).updT ak Z) ((nt.updT ag el).updT ak Z) (aJ oy J) (aJ ph J)),(a8 (a8 (a8 F eP.size) el.by_.size) Z.by_.size)⟩ J (aP J)))
  refine bH (aH J (gC jj) (aE 1 J (aT J (aD ?_))));by_cases jy:k=6
  ·refine bH (aH J (fE jy) (aE 1 J (bC J (bH (pf V 1 J (lo bJ o [.bool sa,up Aa na ca,.bool sb,up Ab nb cb] J J J (pf V 5 J (lo bJ o [.bool sd,up Ad nd cd,.bool se,up Ae ne ce] J J J (aX f (XQ (hx.ext f) (aJ la J) (hy.ext f) (aJ lb J) (hu.ext f) (aJ ld J) (hv.ext f) (aJ le J)) J ?_)))))))));rintro _ _ ⟨_,_,rfl,rfl,rfl⟩ fx G;refine mv 1 J (aA (no (bM (bW (x*v+ -u*y) (y*v)) 0)) J (aA (no (bR (y*v))) J (pf E 7 J ?_)));refine g9 (L.ext fx) [F0,S0,F0,S0,F0,S0,S0,no (bM (bW (x*v+ -u*y) (y*v)) 0),.string ⟨#[]⟩,I0] J fun _ ll gb _=>?_;have I:=gb.ext G h;refine pf E 9 J (g9 ll [F0,S0,F0,S0,F0,S0,S0,no (bM (bW (x*v+ -u*y) (y*v)) 0),.string ⟨#[]⟩,no (bR (y*v))] J fun mo lm fv _=>?_);have H:=fv.ext I h;refine cF (bT (eO (⟨mo,⟨0,0,0,[],bM (bW (x*v+ -u*y) (y*v)) 0,[],bR (y*v)⟩,⟨false,none,0,0⟩,⟨false,none,0,0⟩,⟨false,none,0,0⟩,none,0⟩:a6×Ans8×ZC×ZC×ZC×Option a7×Nat) ⟨H,(by rw [jy];rfl),(((M.ext fx).vN gb).vN fv),lm,(F8 pN),(a8 (a8 (a8 F fx.size) gb.by_.size) fv.by_.size)⟩ J (aP J)))
  refine bH (aH J (gC jy) (aE 1 J (aT J (aD ?_))));by_cases jl:k=7
  ·refine bH (aH J (fE jl) (aE 1 J (bC J (bH (pf V 1 J (lo bJ o [.bool sa,up Aa na ca,.bool sb,up Ab nb cb] J J J ?_))))));have nj:ln (qF x y)≤1048578:=MU Lx;refine aX f (TW f.size (hx.ext f) (aJ la J) (hy.ext f) (aJ lb J)) J ?_;rintro _ _ ⟨_,_,rfl,⟨ew,ch,bo,az,rfl,mu⟩,rfl⟩ gk G;refine mv 1 J (aA (O ew ch bo az) J (aA (no (eZ y)) J (pf E 4 J ?_)));have ie:=(L.ext gk);refine so aB ie [F0,S0,F0,S0,.bool ew,up ch bo az,S0,I0,.string ⟨#[]⟩,I0] G h J J J J fun _ ik fq I=>(pf E 9 J (g9 ik [F0,S0,F0,S0,.bool ew,up ch bo az,S0,I0,.string ⟨#[]⟩,no (eZ y)] J fun ni ku bm _=>?_));have H:=bm.ext I h;refine cF (bT (eO (⟨ni,⟨0,0,qF x y,[],0,[],eZ y⟩,⟨false,none,0,0⟩,⟨false,none,0,0⟩,⟨ew,ch,bo,az⟩,none,0⟩:a6×Ans8×ZC×ZC×ZC×Option a7×Nat) ⟨H,(by rw [jl];rfl),(((M.ext gk).vN fq).vN bm),ku,(NS ((mu.updT ie fq).updT ik bm) (aJ nj J)),(a8 (a8 (a8 F gk.size) fq.by_.size) bm.by_.size)⟩ J (aP J)))
  refine bH (aH J (gC jl) (aE 1 J (aT J (aD ?_))));by_cases jm:k=8
  ·refine bH (aH J (fE jm) (aE 1 J (bC J (bH (pf V 1 J (lo bJ o [.bool sa,up Aa na ca,.bool sb,up Ab nb cb] J J J ?_))))));have my:ln (nA x y)≤1048577:=MW Lx;refine aX f (TV f.size (hx.ext f) (aJ la J) (hy.ext f) (aJ lb J)) J ?_;rintro _ _ ⟨_,_,rfl,⟨du,br,dt,eg,rfl,nu⟩,rfl⟩ gi G;refine mv 1 J (aA (O du br dt eg) J (aA (no (bR y)) J (pf E 4 J ?_)));have fz:=(L.ext gi);refine so aB fz [F0,S0,F0,S0,.bool du,up br dt eg,S0,I0,.string ⟨#[]⟩,I0] G h J J J J fun _ fp ge I=>(pf E 9 J (g9 fp [F0,S0,F0,S0,.bool du,up br dt eg,S0,I0,.string ⟨#[]⟩,no (bR y)] J fun mx me dh _=>?_));have H:=dh.ext I h;refine cF (bT (eO (⟨mx,⟨0,0,nA x y,[],0,[],bR y⟩,⟨false,none,0,0⟩,⟨false,none,0,0⟩,⟨du,br,dt,eg⟩,none,0⟩:a6×Ans8×ZC×ZC×ZC×Option a7×Nat) ⟨H,(by rw [jm];rfl),(((M.ext gi).vN ge).vN dh),me,(NS ((nu.updT fz ge).updT fp dh) (aJ my J)),(a8 (a8 (a8 F gi.size) ge.by_.size) dh.by_.size)⟩ J (aP J)))
  refine bH (aH J (gC jm) (aE 1 J (aT J (aD ?_))));by_cases ko:k=9
  ·refine bH (aH J (fE ko) (aE 1 J (bC J (bH (pf V 1 J (lo bJ o [.bool sa,up Aa na ca,.bool sb,up Ab nb cb] J J J (aX f (TU (hx.ext f) (aJ la J) (hy.ext f) (aJ lb J)) J ?_)))))));rintro _ _ ⟨_,_,rfl,rfl,rfl⟩ fw G;refine mv 1 J (aA (.string (aN (kV x y))) J (aA (no (bR y)) J (pf E 8 J ?_)));refine g9 (L.ext fw) [F0,S0,F0,S0,F0,S0,S0,I0,.string (aN (kV x y)),I0] J fun _ ky fj _=>?_;have I:=fj.ext G h;refine pf E 9 J (g9 ky [F0,S0,F0,S0,F0,S0,S0,I0,.string (aN (kV x y)),no (bR y)] J fun mq lh ga _=>?_);have H:=ga.ext I h;refine cF (bT (eO (⟨mq,⟨0,0,0,[],0,kV x y,bR y⟩,⟨false,none,0,0⟩,⟨false,none,0,0⟩,⟨false,none,0,0⟩,none,0⟩:a6×Ans8×ZC×ZC×ZC×Option a7×Nat) ⟨H,(by rw [ko];rfl),(((M.ext fw).vN fj).vN ga),lh,(F8 IR),(a8 (a8 (a8 F fw.size) fj.by_.size) ga.by_.size)⟩ J (aP J)))
  refine bH (aH J (gC ko) (aE 1 J (aT J (aD ?_))));by_cases fa:k=10
  ·refine bH (aH J (fE fa) (aE 1 J (bC J (bH (pf V 13 J (dG o J (dP [.string (aN bs)] ((vA hbs hlen).2.2 f.size).1 J ?_)))))));rintro _ _ ⟨_,rfl,nw,ci⟩;refine dO ?_;have G:=f.trans ci;obtain⟨_,_,rfl,⟨au,da,aw,dr,de,cj,dl,em,rfl,oi,mi⟩,rfl⟩:=nw;refine mv 1 J (aA (a9 au da aw dr de cj dl em) J (aA (no ((fT bs).2.2)) J (pf E 0 J ?_)));have ao:=(L.ext ci);refine so bJ ao [.bool au,up da aw dr,.bool de,up cj dl em,F0,S0,S0,I0,.string ⟨#[]⟩,I0] G h J J J J fun _ ae bp I=>(pf E 9 J (g9 ae [.bool au,up da aw dr,.bool de,up cj dl em,F0,S0,S0,I0,.string ⟨#[]⟩,no ((fT bs).2.2)] J fun mj ks Y _=>?_));have H:=Y.ext I h;refine cF (bT (eO (⟨mj,⟨(fT bs).1,(fT bs).2.1,0,[],0,[],(fT bs).2.2⟩,⟨au,da,aw,dr⟩,⟨de,cj,dl,em⟩,⟨false,none,0,0⟩,none,0⟩:a6×Ans8×ZC×ZC×ZC×Option a7×Nat) ⟨H,(by rw [fa];rfl),(((M.ext ci).vN bp).vN Y),ks,(rW ((oi.updT ao bp).updT ae Y) ((mi.updT ao bp).updT ae Y) (a8 (vA hbs hlen).1 yd) (a8 (vA hbs hlen).2.1 yd)),(a8 (a8 (a8 F ci.size) bp.by_.size) Y.by_.size)⟩ J (aP J)))
  refine bH (aH J (gC fa) (aE 1 J (aT J (aD ?_))));by_cases aq:k=11
  ·refine bH (aH J (fE aq) (aE 1 J (bC J (bH (pf V 1 J (lo bJ o [.bool sa,up Aa na ca,.bool sb,up Ab nb cb] J J J ?_))))));have qo:V<aa.heap.size:=o.lt;have qq:g6<aa.heap.size:=M.lt;have qp:E<aa.heap.size:=L.lt;have om:gf≤aa.heap.size:=F;refine aX f (TX f.size (hx.ext f) (aJ la J) (hy.ext f) (aJ lb J)) J ?_;rintro _ _ ⟨_,_,rfl,⟨bd,fc,rfl,fm⟩,r193_1⟩ gg G;have bj:=fm.block;obtain rfl:=r193_1;refine mv 1 J (aA (up bd ((lD x y).length) fc) J (aA (no (bR y)) J (pf E 6 J ?_)));have fe:=(L.ext gg);refine g9 fe [F0,S0,F0,S0,F0,S0,up bd ((lD x y).length) fc,I0,.string ⟨#[]⟩,I0] J fun _ fy cp _=>?_;have I:=cp.ext G h;refine pf E 9 J (g9 fy [F0,S0,F0,S0,F0,S0,up bd ((lD x y).length) fc,I0,.string ⟨#[]⟩,no (bR y)] J fun nk mb bw _=>?_);have H:=bw.ext I h;refine cF (bT (eO (⟨nk,⟨0,0,0,lD x y,0,[],bR y⟩,⟨false,none,0,0⟩,⟨false,none,0,0⟩,⟨false,none,0,0⟩,bd,fc⟩:a6×Ans8×ZC×ZC×ZC×Option a7×Nat) ⟨H,(by rw [aq];rfl),(((M.ext gg).vN cp).vN bw),mb,(a0x ((((fm.updT fe cp (fun p hp=>by have:=bj p hp;omega)).updT fy bw (fun p hp=>by have:=bj p hp;omega))).mono (aU _) (aU _) om) (PY Lx Ly)),(a8 (a8 (a8 F gg.size) cp.by_.size) bw.by_.size)⟩ J (aP J)))
  refine bH (aH J (gC aq) (aE 1 J (aT J (aD ?_))));by_cases fd:k=12
  ·refine bH (aH J (fE fd) (aE 1 J (bC J (bH (pf V 14 J (dG o J (bI [up C n c] f (TT f.size (hl.ext f) hn hmb hnd) J ?_)))))));rintro _ _ ⟨_,_,rfl,⟨bu,ee,ba,bf,dm,ez,ej,dg,rfl,oh,nl⟩,rfl⟩ ia G;refine mv 1 J (aA (a9 bu ee ba bf dm ez ej dg) J (aA (no (mV zs)) J (pf E 0 J ?_)));have ai:=(L.ext ia);refine so bJ ai [.bool bu,up ee ba bf,.bool dm,up ez ej dg,F0,S0,S0,I0,.string ⟨#[]⟩,I0] G h J J J J fun _ ah df I=>(pf E 9 J (g9 ah [.bool bu,up ee ba bf,.bool dm,up ez ej dg,F0,S0,S0,I0,.string ⟨#[]⟩,no (mV zs)] J fun nz lv X _=>?_));have H:=X.ext I h;refine cF (bT (eO (⟨nz,⟨oL zs,oM zs,0,[],0,[],mV zs⟩,⟨bu,ee,ba,bf⟩,⟨dm,ez,ej,dg⟩,⟨false,none,0,0⟩,none,0⟩:a6×Ans8×ZC×ZC×ZC×Option a7×Nat) ⟨H,(by rw [fd];rfl),(((M.ext ia).vN df).vN X),lv,(rW ((oh.updT ai df).updT ah X) ((nl.updT ai df).updT ah X) (a8 (BB hnd).1 yd) (a8 (BB hnd).2 yd)),(a8 (a8 (a8 F ia.size) df.by_.size) X.by_.size)⟩ J (aP J)))
  refine bH (aH J (gC fd) (aE 1 J (aT J (aD ?_))));by_cases dx:k=13
  ·refine bH (aH J (fE dx) (aE 1 J (bC J (bH (pf V 9 J (lo aB o (a5 sf Af nf cf) J J J (pf V 11 J (lo aB o (a5 sg Ag ng cg) J J J (aX f (XK f.size (hp.ext f) (aJ lf J) (hq.ext f) (aJ lg J)) J ?_)))))))));rintro _ _ ⟨_,_,rfl,⟨dw,cz,ey,bh,ei,bg,fb,cm,rfl,mn,oe⟩,rfl⟩ gj G;refine mv 1 J (aA (a9 dw cz ey bh ei bg fb cm) J (aA (no (kB q p)) J (pf E 0 J ?_)));have aj:=(L.ext gj);refine so bJ aj [.bool dw,up cz ey bh,.bool ei,up bg fb cm,F0,S0,S0,I0,.string ⟨#[]⟩,I0] G h J J J J fun _ am ct I=>(pf E 9 J (g9 am [.bool dw,up cz ey bh,.bool ei,up bg fb cm,F0,S0,S0,I0,.string ⟨#[]⟩,no (kB q p)] J fun mp kx ab _=>?_));have H:=ab.ext I h;refine cF (bT (eO (⟨mp,⟨kW q p,kX q p,0,[],0,[],kB q p⟩,⟨dw,cz,ey,bh⟩,⟨ei,bg,fb,cm⟩,⟨false,none,0,0⟩,none,0⟩:a6×Ans8×ZC×ZC×ZC×Option a7×Nat) ⟨H,(by rw [dx];rfl),(((M.ext gj).vN ct).vN ab),kx,(rW ((mn.updT aj ct).updT am ab) ((oe.updT aj ct).updT am ab) (a8 (BC Lq).1 yd) (a8 (BC Lq).2 yd)),(a8 (a8 (a8 F gj.size) ct.by_.size) ab.by_.size)⟩ J (aP J)))
  refine bH (aH J (gC dx) (aE 1 J (aT J (bB (bT (eO (⟨aa,⟨0,0,0,[],0,[],0⟩,⟨false,none,0,0⟩,⟨false,none,0,0⟩,⟨false,none,0,0⟩,none,0⟩:a6×Ans8×ZC×ZC×ZC×Option a7×Nat) ⟨f,(by unfold mX;rw [if_neg kb,if_neg il,if_neg ke,if_neg jz,if_neg jj,if_neg jy,if_neg jl,if_neg jm,if_neg ko,if_neg fa,if_neg aq,if_neg fd,if_neg dx]),M,L,(F8 pN),F⟩ J (aP J)))))))
 rintro⟨wr,t,k1,k2,U,B,d⟩ ⟨kw,ht,b_2,b_3,hj,_⟩;refine fW [(2,i5 g6 0),(3,i5 E 0)] wr J (aP J) ?_;obtain⟨ot,qd,pd,kq,po⟩:=hj;have oo:=kq.block;have mf:∀p,B=some p→p.block≠g6:=fun p hp=>by have:=kq.block p hp;omega
 have pz:∀p,B=some p→p.block≠E:=fun p hp=>by have:=kq.block p hp;omega
 refine sr (lo iC b_3 [.bool k1.s,up k1.A k1.n k1.c,.bool k2.s,up k2.A k2.n k2.c,.bool U.s,up U.A U.n U.c,up B t.L.length d,no t.N,.string (aN t.S),no t.E] J J J ?_);have W:=b_2;refine so iC W [.bool k1.s,up k1.A k1.n k1.c,.bool k2.s,up k2.A k2.n k2.c,.bool U.s,up U.A U.n U.c,up B t.L.length d,no t.N,.string (aN t.S),no t.E] kw mt J J J J fun _ kz cv md=>(aG (bA (aZ [.agg #[.bool k1.s,up k1.A k1.n k1.c,.bool k2.s,up k2.A k2.n k2.c,.bool U.s,up U.A U.n U.c,up B t.L.length d,no t.N,.string (aN t.S),no t.E]] J ⟨⟨_,rfl,bK iC kz [.bool k1.s,up k1.A k1.n k1.c,.bool k2.s,up k2.A k2.n k2.c,.bool U.s,up U.A U.n U.c,up B t.L.length d,no t.N,.string (aN t.S),no t.E] J (bq J) rfl⟩,xl⟩ ?_)));exact⟨_,rfl,AnsR8.of ht ⟨_,_,_,_,_,_,_,_,_,_,_,_,_,_,rfl,(ot.updT W cv),(qd.updT W cv),(pd.updT W cv),(((kq.updT W cv mf)).mono (aU _) (aU _) kt),po⟩,md⟩
theorem a01 (hb:b≤w.heap.size){k:Int}(h:Op8 w k x y u v p q bs zs n vv)(hbs:∀b,b∈bs→b<256)(hlen:bs.length≤1048576):aQ aM 5 #[vv] w (Gv w (AnsR8 b (mX k x y u v p q bs zs))):=by
 obtain⟨sa,Aa,na,ca,sb,Ab,nb,cb,sd,Ad,nd,cd,se,Ae,ne,ce,sf,Af,nf,cf,sg,Ag,ng,cg,C,c,ms,rfl,h1,h2,U,L,M,V,W,X,Y,H,E,o,G,I,F,f⟩:=h;exact (a00 h1 h2 U L M V W X Y H E o G I F f hbs hlen).mono (Gv.imp (AnsR8.imp hb))
theorem a1h (hx:Zi w sa Aa na ca x)(la:na≤1048576):aQ aM 31 #[O sa Aa na ca] w (Gv w (ZOR w.heap.size sa na x)):=by
 have bd:=hx;obtain⟨xs,aj,bg⟩:=bd;have Lx:=bP hx la;refine bU Tryz.func31 10 J (sr (bx (a5 sa Aa na ca) bN J J J fun g1 _ V _ _ bj=>(bV [F0,S0] bj V.lt J fun _ v7 az ai _ e8 M=>(aG (aD ?_)))));refine dW cM 7 [] [Is (i5 g1 0),Is (.bool sa),fun v' w'=>∃g,v'= up (some ⟨g,0,none⟩) 0 0∧v7.heap.size≤g∧Bk w' g 43 [],Is (i5 g1 1),Is (up Aa na ca),fun v' w'=>∃A c,v'= up A na c∧Own w' w.heap.size 43 1 A na c (xs.map bF),ZOR w.heap.size sa na x] [[],[0],[],[],[3],[2,4],[1,5]] rfl (bY J ?_ ?_ ?_ ?_ (cG J ?_ (cG J ?_ (cG J ?_ dN)))) ?_
 ·exact fun _ _=>aC (pf g1 0 J (aI J))
 ·exact fun _ bm=>aO J (aC (bG (cE eW (V.ext (e8.t bm)) J) J (aI J)))
 ·intro _ ak;have h:=M.trans ak;refine aC (iF J J (k:=0) (e:=43) [] ye fun bf _ nb=>?_);have ag:=nb.bk;have ab:=nb.ext;have ae:v7.heap.size≤bf:=by rw [←nb.at_];exact ak.size
  clear nb;have X:=h.trans ab;exact bQ J ab ⟨_,rfl,ae,ag⟩
 ·exact fun _ _=>aC (pf g1 1 J (aI J))
 ·exact fun _ bi=>aO J (aC (bG (cE dY (V.ext (e8.t bi)) J) J (aI J)))
 ·intro _ aw;have h:=M.trans aw;refine aW J ?_;rintro _ _ ⟨_,rfl,W,E⟩ _ bh;have E:=E.ext bh;refine aO J (aC (SN J J J Tryz.underlying22 j9 J yd (a8 M.size W) h.size E (aj.ext h).rv (CD xs) i9 yd fun _ _ _ am ao=>?_));have X:=h.trans ao;exact bQ J ao ⟨_,_,rfl,am⟩
 ·intro _ _;refine aO J (aW J ?_);rintro _ _ ⟨aa,ar,rfl,H⟩ _ av;have H:=H.ext av;refine aC (aA (O sa aa na ar) J ?_);exact bQ J bN ⟨_,_,rfl,(show Zo _ _ sa _ _ _ x from⟨xs,H,aj.wf,bg⟩)⟩
 intro _ Y;have h:=M.trans Y;refine aY J (aW J ?_);rintro _ _ ⟨_,rfl,_,G⟩ _ ba;have G:=G.ext ba;refine aY J (aW J ?_);rintro _ _ ⟨_,_,rfl,I⟩ _ ah;have I:=I.ext ah;refine aW J ?_;rintro _ _ ⟨f,F,rfl,o⟩ _ Z;have o:=o.ext Z;refine aC ?_;have L:=(az.ext Y);refine so aB L (a5 sa f na F) h ai J J J J fun _ U aq X=>(cF (dM (aL (bA (aZ [O sa f na F] J ⟨⟨_,rfl,bK aB U (a5 sa f na F) J (bq J) rfl⟩,xl⟩ ?_)))));exact⟨_,rfl,⟨_,_,rfl,(o.updT L aq)⟩,X⟩
theorem tW (hb:b≤w.heap.size)(hx:Zi w sa Aa na ca x)(la:na≤1048576):aQ aM 31 #[O sa Aa na ca] w (Gv w (ZOR b sa na x)):=(a1h hx la).mono (Gv.imp (ZOR.imp hb))
theorem a1i {t:Ans8}{nap:Nat}{nbp cbp:Nat}{ndp cdp:Nat}{naq caq:Nat}{nbq cbq:Nat}{ndq cdq:Nat}(zap:Zr w b1 sap Aap nap cap t.F)(zbp:Zr w b1 sbp Abp nbp cbp t.G)(zdp:Zr w b1 sdp Adp ndp cdp t.X)(lzp:Lz none 1048579 b1 w b1 Bp t.L.length dp t.L)(hbp:b1≤w.heap.size)(zaq:Zr w b2 saq Aaq naq caq t.F)(zbq:Zr w b2 sbq Abq nbq cbq t.G)(zdq:Zr w b2 sdq Adq ndq cdq t.X)(lzq:Lz none 1048579 b2 w b2 Bq t.L.length dq t.L)(hbq:b2≤w.heap.size)(lF:ln t.F≤1099511627776)(lG:ln t.G≤1099511627776)(lX:ln t.X≤1099511627776)(lt:∀c,c∈t.S→c<256)(hn:t.L.length≤200000000):aQ aM 9 #[.agg #[.bool sap,up Aap nap cap,.bool sbp,up Abp nbp cbp,.bool sdp,up Adp ndp cdp,up Bp t.L.length dp,no t.N,.string (aN t.S),no t.E],.agg #[.bool saq,up Aaq naq caq,.bool sbq,up Abq nbq cbq,.bool sdq,up Adq ndq cdq,up Bq t.L.length dq,no t.N,.string (aN t.S),no t.E]] w (Gv w (Is (we))):=by
 refine bU Tryz.func9 65 J (aD ?_);have cj:=lzp.block;have cm:=lzq.block;refine bH (nQ J J (vs:= [.bool sap,up Aap nap cap,.bool sbp,up Abp nbp cbp,.bool sdp,up Adp ndp cdp,up Bp t.L.length dp,no t.N,.string (aN t.S),no t.E]) J fun G _ nb=>?_);have ai:=nb.bk;have da:w.heap.size≤G:=by rw [←nb.at_];exact (Ext.refl w).size
 have de:∀p,Bp=some p→p.block≠G:=fun p hp=>by have:=(lzp).block p hp;have:=nb.at_;omega
 have cz:∀p,Bq=some p→p.block≠G:=fun p hp=>by have:=(lzq).block p hp;have:=nb.at_;omega
 have Y:=nb.ext;clear nb;have o:=(Ext.refl w).trans Y;refine nQ J J (vs:= [.bool saq,up Aaq naq caq,.bool sbq,up Abq nbq cbq,.bool sdq,up Adq ndq cdq,up Bq t.L.length dq,no t.N,.string (aN t.S),no t.E]) J fun h br nb=>?_;have V:=nb.bk;have cp:w.heap.size≤h:=by rw [←nb.at_];exact o.size
 have cv:G<h:=by rw [←nb.at_];exact ai.lt
 have ct:∀p,Bp=some p→p.block≠h:=fun p hp=>by have:=((lzp.ext Y)).block p hp;have:=nb.at_;omega
 have ci:∀p,Bq=some p→p.block≠h:=fun p hp=>by have:=((lzq.ext Y)).block p hp;have:=nb.at_;omega
 have H:=nb.ext;clear nb;have I:=o.trans H;refine aE 1 J (aD (sr (pf G 6 J (dG (ai.ext H) J (aA (no (t.L.length:Nat)) J (pf h 6 J (dG V J (aA (no (t.L.length:Nat)) J (aH J (lW t.L.length t.L.length J) (aG (aT J (bB ?_))))))))))));refine aL (aD (sr (aE 1 J (bO ?_))));refine dC (T:=a6×Nat) (fun⟨wr,i⟩=> [(2,i5 G 0),(3,i5 h 0),(4,wk),(5,no i)]) (fun⟨wr,i⟩=>wr) (fun⟨wr,i⟩=>(Ext w wr)∧(i≤t.L.length)∧(Bk wr G 33 [.bool sap,up Aap nap cap,.bool sbp,up Abp nbp cbp,.bool sdp,up Adp ndp cdp,up Bp t.L.length dp,no t.N,.string (aN t.S),no t.E])∧(Bk wr h 33 [.bool saq,up Aaq naq caq,.bool sbq,up Abq nbq cbq,.bool sdq,up Adq ndq cdq,up Bq t.L.length dq,no t.N,.string (aN t.S),no t.E])∧(Lz none 1048579 b1 wr b1 Bp t.L.length dp t.L)∧(b1≤wr.heap.size)∧(Lz none 1048579 b2 wr b2 Bq t.L.length dq t.L)∧(b2≤wr.heap.size)) (fun⟨wr,i⟩=>t.L.length-i) (⟨br,0⟩:a6×Nat) ⟨I,bX _,(ai.ext H),V,(lzp.ext (Y.t H)),(a8 (a8 hbp Y.size) H.size),(lzq.ext (Y.t H)),(a8 (a8 hbq Y.size) H.size)⟩ J (aP J) ?_;rintro⟨wr,i⟩ ⟨o,_,b_2,b_3,llp,bj,llq,bo⟩;refine fW [(2,i5 G 0),(3,i5 h 0),(4,wk),(5,no i)] wr J (aP J) ?_;have bp:=llp.block;have bm:=llq.block;refine aD (aD ?_);by_cases df:i<t.L.length
 ·refine aK 1 J (pf G 6 J (dG b_2 J (aA (no (t.L.length:Nat)) J (aH J (dV i t.L.length J) (aG (bC J (bB (aL (aD (bO (aD ?_)))))))))));obtain⟨U,au,ba,ar,aw,X,ah,Z,av⟩:=(llp).at (i:=i) i9;have L:=av.zr;have ak:ln (t.L.getD i 0)≤1048579:=L.ln_le Z;obtain⟨W,az,bh,bf,bd,ag,aj,aa,am⟩:=(llq).at (i:=i) i9;have M:=am.zr;have bg:ln (t.L.getD i 0)≤1048579:=M.ln_le aa;refine dW cM 12 [] [Is (i5 G 6),Is (up Bp t.L.length dp),Is (no i),Is (.pointer (some U)),Is (O au ba ar aw),Is (i5 h 6),Is (up Bq t.L.length dq),Is (no i),Is (.pointer (some W)),Is (O az bh bf bd),Is (we),Is (wk)] [[],[0],[],[1,2],[3],[],[5],[],[6,7],[8],[4,9],[10]] rfl (bY J ?_ ?_ ?_ ?_ (bY J ?_ ?_ ?_ ?_ (bY J ?_ ?_ ?_ ?_ dN))) ?_
  ·exact fun _ _=>aC (pf G 6 J (aI J))
  ·exact fun _ bu=>aO J (aC (dG (b_2.ext bu) J (aI J)))
  ·exact fun _ _=>aC (mv 1 J (aI J))
  ·exact fun _ _=>aY J (aC (cA fI aB.size i U X J (aI J)))
  ·exact fun _ mK=>aO J (aC (bG (ah _ mK _ _ aB) J (aI J)))
  ·exact fun _ _=>aC (pf h 6 J (aI J))
  ·exact fun _ ch=>aO J (aC (dG (b_3.ext ch) J (aI J)))
  ·exact fun _ _=>aC (mv 1 J (aI J))
  ·exact fun _ _=>aY J (aC (cA fI aB.size i W ag J (aI J)))
  ·exact fun _ bi=>aO J (aC (bG (aj _ bi _ _ aB) J (aI J)))
  ·intro _ ae;have I:=o.trans ae;refine aY J (aC (aX I (OS (L.ext ae) (L.le (aJ ak J)) (M.ext ae) (M.le (aJ bg J)) J) J ?_));rintro _ _ rfl bw aq;exact bQ J bw rfl
  ·exact fun _ _=>aO J (aC (aA (wk) J (aI J)))
  intro ao E;have I:=o.trans E;refine d6 J (d6 J (d6 J (aC (cF ?_))));refine dM (aL (aT J (bB (bT (aL (aK 1 J (bD J (cK i 1 J) (bS 1 J (cP (⟨ao,i+1⟩:a6×Nat) ⟨I,i9,(b_2.ext E),(b_3.ext E),(llp.ext E),(a8 bj E.size),(llq.ext E),(a8 bo E.size)⟩ (show t.L.length-(i+1)<t.L.length-i by omega) J (aP J))))))))))
 refine aK 1 J (pf G 6 J (dG b_2 J (aA (no (t.L.length:Nat)) J (aH J (dQ i t.L.length J) (aG (aT J (d9 (cY (d7 (d8 (aL (aD ?_))))))))))));refine bH (pf G 0 J (lo bJ b_2 [.bool sap,up Aap nap cap,.bool sbp,up Abp nbp cbp] J J J (pf h 0 J (lo bJ b_3 [.bool saq,up Aaq naq caq,.bool sbq,up Abq nbq cbq] J J J (aX o (a1j (zap.ext o) (zap.le (aJ lF J)) (zbp.ext o) (zbp.le (aJ lG J)) (zaq.ext o) (zaq.le (aJ lF J)) (zbq.ext o) (zbq.le (aJ lG J)) J J) J ?_)))));rintro _ _ rfl f I;refine mv 1 J (pf G 4 J (lo aB (b_2.ext f) (a5 sdp Adp ndp cdp) J J J (pf h 4 J (lo aB (b_3.ext f) (a5 sdq Adq ndq cdq) J J J (aX I (OS (zdp.ext (o.trans f)) (zdp.le (aJ lX J)) (zdq.ext (o.trans f)) (zdq.le (aJ lX J)) J) J ?_)))));rintro _ _ rfl F aq;refine aA (we) J (mv 1 J (pf G 7 J (dG (b_2.ext (f.t F)) J (pf h 7 J (dG (b_3.ext (f.t F)) J (aH J (fE J) (aA (we) J (mv 1 J (pf G 8 J (dG (b_2.ext (f.t F)) J (pf h 8 J (dG (b_3.ext (f.t F)) J (pK (a:=t.S) (b:=t.S) J J J lt true (zS (J)) ?_ (hb:=lt))))))))))))));refine aA (we) J (mv 1 J (pf G 9 J (dG (b_2.ext (f.t F)) J (pf h 9 J (dG (b_3.ext (f.t F)) J (aH J (fE J) (aA (we) J (aE 1 J (bA (aZ [we] J ⟨rfl,xl⟩ ?_))))))))));exact⟨_,rfl,rfl,aq⟩
theorem yA {t:Ans8}(hb1:b1≤w.heap.size)(hb2:b2≤w.heap.size){u v:aF}(hu:AnsR8 b1 t u w)(hv:AnsR8 b2 t v w):aQ aM 9 #[u,v] w (Gv w (Is (we))):=by
 obtain⟨s,A,n,c,s',A',n',c',s2,_,_,_,B,d,rfl,h1,h2,F,h,o,G,H,L,M⟩:=hu;obtain⟨r,C,m,e,r',C',m',e',_,_,_,_,D,f,rfl,k1,k2,E,I,_,_,_,_,_⟩:=hv;exact a1i h1 h2 F h hb1 k1 k2 E I hb2 o G H L M
theorem a1k {k:Int}{nb:Nat}{nd:Nat}{sg:Bool}(hx:Zi w sa Aa na ca x)(la:na≤1048576)(hy:Zi w sb Ab nb cb y)(lb:nb≤1048576)(hu:Zi w sd Ad nd cd u)(ld:nd≤1048576)(hv:Zi w se Ae ne ce v)(le:ne≤1048576)(hp:Zi w sf Af nf cf p)(lf:nf≤1048576)(hq:Zi w sg Ag ng cg q)(lg:ng≤1048576)(hl:Zl w C n c zs ms)(hn:n≤1048576)(hmb:∀i,ms.getD i 0≤1048576)(hnd:yP zs):aQ aM 6 #[.agg #[no k,.bool sa,up Aa na ca,.bool sb,up Ab nb cb,.bool sd,up Ad nd cd,.bool se,up Ae ne ce,.bool sf,up Af nf cf,.bool sg,up Ag ng cg,.string (aN bs),up C n c]] w (Gv w (fun v' w'=>∃C2,QT w.heap.size k x y u v p q bs (up C2 n n) v' w'∧Lz (some w) 1048576 w.heap.size w' w.heap.size C2 n n zs)):=by
 have Lx:=bP hx la;have Ly:=bP hy lb;have Lu:=bP hu ld;have Lv:=bP hv le;have Lp:=bP hp lf;have Lq:=bP hq lg;refine bU Tryz.func6 55 J (sr (bx [no k,.bool sa,up Aa na ca,.bool sb,up Ab nb cb,.bool sd,up Ad nd cd,.bool se,up Ae ne ce,.bool sf,up Af nf cf,.bool sg,up Ag ng cg,.string (aN bs),up C n c] bN J J J fun o _ ef _ _ F=>(bV [I0,F0,S0,F0,S0,F0,S0,F0,S0,F0,S0,F0,S0,.string ⟨#[]⟩,S0] F ef.lt J fun g6 _ jo jv _ e8 f=>(aG (sr (pf o 14 J (dG (ef.ext e8) J (aA (no n) J (SB (k:=n) (some w) 1048576 w.heap.size J J J i9 yd fun h ji cp dt fk=>?_)))))))));have me:o<h:=by rw [←cp];exact (ef.ext e8).lt
 have md:g6<h:=by rw [←cp];exact jo.lt
 have dz:h≤ji.heap.size:=by have:=(dt.block _ J).2;exact Nat.le_of_lt this
 have ee:w.heap.size≤h:=by rw [←cp];exact f.size
 clear cp;have H:=f.trans fk;have lu:=dt.block;have mb:∀p:a7,((some ⟨h,0,none⟩):Option a7)=some p→p.block≠o:=fun p hp=>by cases hp;show h≠o;omega
 have ma:∀p:a7,((some ⟨h,0,none⟩):Option a7)=some p→p.block≠g6:=fun p hp=>by cases hp;show h≠g6;omega
 refine aE 1 J (aD (sr (aE 1 J (bO ?_))));refine dC (T:=a6×Nat) (fun⟨wr,j⟩=> [(1,i5 o 0),(2,i5 g6 0),(3,up (some ⟨h,0,none⟩) n n),(4,no j)]) (fun⟨wr,j⟩=>wr) (fun⟨wr,j⟩=>(Ext w wr)∧(j≤n)∧(Lz (some w) 1048576 w.heap.size wr h (some ⟨h,0,none⟩) n n (qE zs n j))∧(h≤wr.heap.size)∧(Bk wr o 29 [no k,.bool sa,up Aa na ca,.bool sb,up Ab nb cb,.bool sd,up Ad nd cd,.bool se,up Ae ne ce,.bool sf,up Af nf cf,.bool sg,up Ag ng cg,.string (aN bs),up C n c])∧(Bk wr g6 29 [I0,F0,S0,F0,S0,F0,S0,F0,S0,F0,S0,F0,S0,.string ⟨#[]⟩,S0])) (fun⟨wr,j⟩=>n-j) (⟨ji,0⟩:a6×Nat) ⟨H,bX _,(by have h9:=dt;rw [SW zs n] at h9;exact h9),dz,(ef.ext (e8.t fk)),(jo.ext fk)⟩ J (aP J) ?_;rintro⟨wr,j⟩ ⟨F,_,eg,kn,b_1,b_2⟩;refine ?_;have fh:=eg.block;have jk:∀p:a7,((some ⟨h,0,none⟩):Option a7)=some p→p.block≠o:=fun p hp=>by cases hp;show h≠o;omega
 have ej:∀p:a7,((some ⟨h,0,none⟩):Option a7)=some p→p.block≠g6:=fun p hp=>by cases hp;show h≠g6;omega
 refine aD (aD ?_);by_cases lp:j<n
 ·refine aK 1 J (pf o 14 J (dG b_1 J (aA (no n) J (aH J (dV j n J) (aG (bC J (bB (aL (aD (bO (aK 1 J ?_)))))))))));refine mv 1 J (pf o 14 J (dG b_1 J (mv 1 J ?_)));obtain⟨kj,jq,_,_,ga,gi,kk⟩:=hl.at (i:=j) i9;refine cA fI aB.size j kj ga J (bG (gi _ F _ _ aB) J (aX F (tW F.size (kk.ext F) (a8 (hmb j) yd)) J ?_));rintro _ _ ⟨jr,jc,rfl,kx⟩ dh f;obtain⟨jp,_,_,_,_,dy,_,ft,kv⟩:=((eg.ext dh)).at (i:=j) i9;have lv:ln ((qE zs n j).getD j 0)≤1048576:=a8 (kv.zi f).ln ft;refine cA fI aB.size j jp dy J ?_;have ei:=(eg.ext dh);obtain⟨_,_⟩:=ei.own;refine S2 (e:=⟨jq,jr,(ms.getD j 0),jc⟩) (z:=zs.getD j 0) J J J dy i9 ei (cN ⟨_,rfl,cN kx⟩) (a8 (hmb j) yd) fun kf je cm=>?_;have H:=cm.ext f (fun p hp=>by have:=fh p hp;omega);have da:h≤kf.heap.size:=a8 (a8 kn dh.size) cm.size;refine cF (bT (aL (aK 1 J (bD J (cK j 1 J) (bS 1 J ?_)))));have dw:=je;rw [SX hl.len lp] at dw;refine cP (⟨kf,j+1⟩:a6×Nat) ⟨H,i9,dw,da,((b_1.ext dh).updO cm jk),((b_2.ext dh).updO cm ej)⟩ (show n-(j+1)<n-j by omega) J (aP J)
 refine aK 1 J (pf o 14 J (dG b_1 J (aA (no n) J (aH J (dQ j n J) (aG (aT J (d9 (cY (d7 (d8 (aL (aD ?_))))))))))));refine dW cM 30 [] [Is (i5 o 0),Is (no k),Is (i5 o 1),Is (i5 o 1),Is (O sa Aa na ca),ZOR w.heap.size sa na x,Is (i5 o 1),Is (i5 o 3),Is (O sb Ab nb cb),ZOR w.heap.size sb nb y,fun v' w'=>∃c1 c2 d1 d2,v'= .agg #[c1,c2,d1,d2]∧(ZOR w.heap.size sa na x) (.agg #[c1,c2]) w'∧(ZOR w.heap.size sb nb y) (.agg #[d1,d2]) w',Is (i5 o 5),Is (i5 o 5),Is (O sd Ad nd cd),ZOR w.heap.size sd nd u,Is (i5 o 5),Is (i5 o 7),Is (O se Ae ne ce),ZOR w.heap.size se ne v,fun v' w'=>∃c1 c2 d1 d2,v'= .agg #[c1,c2,d1,d2]∧(ZOR w.heap.size sd nd u) (.agg #[c1,c2]) w'∧(ZOR w.heap.size se ne v) (.agg #[d1,d2]) w',Is (i5 o 9),Is (O sf Af nf cf),ZOR w.heap.size sf nf p,Is (i5 o 11),Is (O sg Ag ng cg),ZOR w.heap.size sg ng q,Is (i5 o 13),Is (.string (aN bs)),Is (up (some ⟨h,0,none⟩) n n),QT w.heap.size k x y u v p q bs (up (some ⟨h,0,none⟩) n n)] [[],[0],[],[2],[3],[4],[],[6],[7],[8],[5,9],[],[11],[12],[13],[],[15],[16],[17],[14,18],[],[20],[21],[],[23],[24],[],[26],[],[1,10,19,22,25,27,28]] rfl (bY J ?_ ?_ ?_ ?_ (bY J ?_ ?_ ?_ ?_ (bY J ?_ ?_ ?_ ?_ (bY J ?_ ?_ ?_ ?_ (bY J ?_ ?_ ?_ ?_ (bY J ?_ ?_ ?_ ?_ (bY J ?_ ?_ ?_ ?_ (cG J ?_ (cG J ?_ dN))))))))) ?_
 ·exact fun _ _=>aC (pf o 0 J (aI J))
 ·exact fun _ lj=>aO J (aC (dG (b_1.ext lj) J (aI J)))
 ·exact fun _ _=>aC (pf o 1 J (aI J))
 ·exact fun _ _=>aO J (aC (pf o 1 J (aI J)))
 ·exact fun _ ll=>aO J (aC (lo aB (b_1.ext ll) (a5 sa Aa na ca) J J J (aI J)))
 ·intro _ lm;have f:=F.trans lm;refine aO J (aC (aX f (tW f.size (hx.ext f) (aJ la J)) J ?_));rintro _ _ ⟨_,_,rfl,jz⟩ kz H;exact bQ J kz ⟨_,_,rfl,jz⟩
 ·exact fun _ _=>aC (pf o 1 J (aI J))
 ·exact fun _ _=>aO J (aC (pf o 3 J (aI J)))
 ·exact fun _ ky=>aO J (aC (lo aB (b_1.ext ky) (a5 sb Ab nb cb) J J J (aI J)))
 ·intro _ kc;have f:=F.trans kc;refine aO J (aC (aX f (tW f.size (hy.ext f) (aJ lb J)) J ?_));rintro _ _ ⟨_,_,rfl,fb⟩ jx H;exact bQ J jx ⟨_,_,rfl,fb⟩
 ·intro _ _;refine aW J ?_;rintro _ _ ⟨fc,iq,rfl,ar⟩ _ jt;have ar:=ar.ext jt;refine aW J ?_;rintro _ _ ⟨gj,ia,rfl,au⟩ _ kw;have au:=au.ext kw;exact aC (aA (a9 sa fc na iq sb gj nb ia) J (bQ J bN ⟨_,_,_,_,rfl,⟨_,_,rfl,ar⟩,⟨_,_,rfl,au⟩⟩))
 ·exact fun _ _=>aC (pf o 5 J (aI J))
 ·exact fun _ _=>aO J (aC (pf o 5 J (aI J)))
 ·exact fun _ kg=>aO J (aC (lo aB (b_1.ext kg) (a5 sd Ad nd cd) J J J (aI J)))
 ·intro _ kd;have f:=F.trans kd;refine aO J (aC (aX f (tW f.size (hu.ext f) (aJ ld J)) J ?_));rintro _ _ ⟨_,_,rfl,gb⟩ kp H;exact bQ J kp ⟨_,_,rfl,gb⟩
 ·exact fun _ _=>aC (pf o 5 J (aI J))
 ·exact fun _ _=>aO J (aC (pf o 7 J (aI J)))
 ·exact fun _ ku=>aO J (aC (lo aB (b_1.ext ku) (a5 se Ae ne ce) J J J (aI J)))
 ·intro _ ki;have f:=F.trans ki;refine aO J (aC (aX f (tW f.size (hv.ext f) (aJ le J)) J ?_));rintro _ _ ⟨_,_,rfl,fg⟩ kq H;exact bQ J kq ⟨_,_,rfl,fg⟩
 ·intro _ _;refine aW J ?_;rintro _ _ ⟨fd,fq,rfl,bd⟩ _ ka;have bd:=bd.ext ka;refine aW J ?_;rintro _ _ ⟨ib,gg,rfl,ah⟩ _ jw;have ah:=ah.ext jw;exact aC (aA (a9 sd fd nd fq se ib ne gg) J (bQ J bN ⟨_,_,_,_,rfl,⟨_,_,rfl,bd⟩,⟨_,_,rfl,ah⟩⟩))
 ·exact fun _ _=>aC (pf o 9 J (aI J))
 ·exact fun _ jg=>aO J (aC (lo aB (b_1.ext jg) (a5 sf Af nf cf) J J J (aI J)))
 ·intro _ jh;have f:=F.trans jh;refine aO J (aC (aX f (tW f.size (hp.ext f) (aJ lf J)) J ?_));rintro _ _ ⟨_,_,rfl,ew⟩ ju H;exact bQ J ju ⟨_,_,rfl,ew⟩
 ·exact fun _ _=>aC (pf o 11 J (aI J))
 ·exact fun _ jd=>aO J (aC (lo aB (b_1.ext jd) (a5 sg Ag ng cg) J J J (aI J)))
 ·intro _ jl;have f:=F.trans jl;refine aO J (aC (aX f (tW f.size (hq.ext f) (aJ lg J)) J ?_));rintro _ _ ⟨_,_,rfl,ij⟩ jj H;exact bQ J jj ⟨_,_,rfl,ij⟩
 ·exact fun _ _=>aC (pf o 13 J (aI J))
 ·exact fun _ kt=>aO J (aC (dG (b_1.ext kt) J (aI J)))
 ·exact fun _ _=>aC (mv 1 J (aI J))
 ·intro _ _;refine aO J (aW J ?_);rintro _ _ ⟨_,_,_,_,rfl,⟨ey,ez,fx,aa⟩,gx⟩ _ em;cases fx;obtain⟨fw,iw,fp,bi⟩:=gx;cases fp;have aa:=aa.ext em;have bi:=bi.ext em;refine aW J ?_;rintro _ _ ⟨_,_,_,_,rfl,⟨fi,gy,ig,bf⟩,ge⟩ _ el;cases ig;obtain⟨fv,fa,fo,aw⟩:=ge;cases fo;have bf:=bf.ext el;have aw:=aw.ext el;refine aW J ?_;rintro _ _ ⟨gk,fe,rfl,L⟩ _ jf;have L:=L.ext jf;refine aW J ?_;rintro _ _ ⟨fz,ie,rfl,ai⟩ _ ko;have ai:=ai.ext ko;refine aY J (aC (aA (.agg #[no k,.bool sa,up ey na ez,.bool sb,up fw nb iw,.bool sd,up fi nd gy,.bool se,up fv ne fa,.bool sf,up gk nf fe,.bool sg,up fz ng ie,.string (aN bs),up (some ⟨h,0,none⟩) n n]) J ?_));exact bQ J bN ⟨_,_,_,_,_,_,_,_,_,_,_,_,_,_,_,_,_,_,_,_,_,_,_,_,rfl,aa,(aJ la J),bi,(aJ lb J),bf,(aJ ld J),aw,(aJ le J),L,(aJ lf J),ai,(aJ lg J)⟩
 intro _ dl;have f:=F.trans dl;refine d6 J (aO J (aW J ?_));rintro _ _ ⟨_,_,rfl,du⟩ _ jy;have du:=du.ext jy;refine aY J (aO J (aW J ?_));rintro _ _ ⟨_,_,rfl,ct⟩ _ kr;have ct:=ct.ext kr;refine aW J ?_;rintro _ _ ⟨_,_,_,_,rfl,⟨_,_,fm,de⟩,iu⟩ _ eh;cases fm;obtain⟨_,_,io,dx⟩:=iu;cases io;have de:=de.ext eh;have dx:=dx.ext eh;refine aY J (aO J (aW J ?_));rintro _ _ ⟨_,_,rfl,dr⟩ _ jm;have dr:=dr.ext jm;refine aY J (aO J (aW J ?_));rintro _ _ ⟨_,_,rfl,dm⟩ _ ke;have dm:=dm.ext ke;refine aW J ?_;rintro _ _ ⟨_,_,_,_,rfl,⟨_,_,ja,cv⟩,iy⟩ _ en;cases ja;obtain⟨_,_,gf,cz⟩:=iy;cases gf;have cv:=cv.ext en;have cz:=cz.ext en;refine aY J (aW J ?_);rintro _ _ ⟨_,_,rfl,dg⟩ _ kb;have dg:=dg.ext kb;refine aY J (aW J ?_);rintro _ _ ⟨_,_,rfl,df⟩ _ ks;have df:=df.ext ks;refine aY J (aO J (aW J ?_));rintro _ _ ⟨av,am,ab,bw,aj,W,ao,ch,az,ae,aq,bo,ak,bj,ba,Y,M,U,cj,br,V,X,bh,bg,rfl,bu,fj,bm,iz,Z,il,ci,ik,ag,go,bp,ir⟩ _ I;have bu:=bu.ext I;have bm:=bm.ext I;have Z:=Z.ext I;have ci:=ci.ext I;have ag:=ag.ext I;have bp:=bp.ext I;refine aC ?_;have E:=(b_2.ext dl);refine so lP E [no k,.bool av,up am ab bw,.bool aj,up W ao ch,.bool az,up ae aq bo,.bool ak,up bj ba Y,.bool M,up U cj br,.bool V,up X bh bg,.string (aN bs),up (some ⟨h,0,none⟩) n n] f jv J J J J fun _ ix G H=>(cF (dM (aL (bA (aZ [.agg #[no k,.bool av,up am ab bw,.bool aj,up W ao ch,.bool az,up ae aq bo,.bool ak,up bj ba Y,.bool M,up U cj br,.bool V,up X bh bg,.string (aN bs),up (some ⟨h,0,none⟩) n n]] J ⟨⟨_,rfl,bK lP ix [no k,.bool av,up am ab bw,.bool aj,up W ao ch,.bool az,up ae aq bo,.bool ak,up bj ba Y,.bool M,up U cj br,.bool V,up X bh bg,.string (aN bs),up (some ⟨h,0,none⟩) n n] J (bq J) rfl⟩,xl⟩ ?_)))));have jb:j=n:=by omega
 have dw:=((eg.ext dl).updT E G ej);rw [jb,SY hl.len] at dw;exact⟨_,rfl,⟨_,⟨_,_,_,_,_,_,_,_,_,_,_,_,_,_,_,_,_,_,_,_,_,_,_,_,rfl,(bu.updT E G),(aJ fj J),(bm.updT E G),(aJ iz J),(Z.updT E G),(aJ il J),(ci.updT E G),(aJ ik J),(ag.updT E G),(aJ go J),(bp.updT E G),(aJ ir J)⟩,dw.mono (aU _) (aU _) ee⟩,H⟩
theorem OR {k:Int}(h:Op8 w k x y u v p q bs zs n vv):aQ aM 6 #[vv] w (Gv w (fun v' w'=>Op8 w' k x y u v p q bs zs n v')):=by
 obtain⟨sa,Aa,na,ca,sb,Ab,nb,cb,sd,Ad,nd,cd,se,Ae,ne,ce,sf,Af,nf,cf,sg,Ag,ng,cg,C,c,ms,rfl,h1,h2,h3,h4,M,h6,V,X,h9,G,E,H,F,o,I,f⟩:=h;refine (a1k h1 h2 h3 h4 M h6 V X h9 G E H F o I f).mono ?_;rintro e w' ⟨_,rfl,⟨_,⟨sa,Aa,na,ca,sb,Ab,nb,cb,sd,Ad,nd,cd,se,Ae,ne,ce,sf,Af,nf,cf,sg,Ag,ng,cg,rfl,Z,L,k1,l1,k2,l2,U,l3,k4,l4,k5,Y⟩,hl⟩,hx⟩;obtain⟨_,W,m2⟩:=hl.zl hx;exact⟨_,rfl,⟨_,_,_,_,_,_,_,_,_,_,_,_,_,_,_,_,_,_,_,_,_,_,_,_,_,_,_,rfl,Z.zi,L,k1.zi,l1,k2.zi,l2,U.zi,l3,k4.zi,l4,k5.zi,Y,W,o,m2,f⟩,hx⟩
def Cs (w:a6)(us:List aF)(n:Nat)(σ:Nat→Bool)(ω:Nat→List Nat):Prop:=∀j,j<n→∃B c,us[j*2]?=some (.bool (σ j))∧us[j*2+1]?=some (.slice B (ω j).length c)∧Rd w B (ω j).length c (ω j)
def jn {α:Type}(n:Nat)(f g:Nat→α)(j:Nat):α:=if j<n then f j else g (j-n)
section
variable {w w':a6}{us vs:List aF}{n m:Nat}{σ τ:Nat→Bool}{ω υ:Nat→List Nat}
theorem Cs.app (h:Cs w us n σ ω)(hl:us.length=n*2)(k:Cs w vs m τ υ):Cs w (us++vs) (n+m) (jn n σ τ) (jn n ω υ):=fun j _=>by
 unfold jn
 by_cases e:j<n
 ·obtain⟨B,c,h1,h2,f⟩:=h j e
  rw [if_pos e,if_pos e]
  exact⟨B,c,by rw [List.getElem?_append_left i9];exact h1,by rw [List.getElem?_append_left i9];exact h2,f⟩
 ·obtain⟨B,c,h1,h2,f⟩:=k (j-n) i9
  rw [if_neg e,if_neg e]
  exact⟨B,c,by rw [List.getElem?_append_right i9,hl,show j*2-n*2=(j-n)*2 by omega];exact h1,by rw [List.getElem?_append_right i9,hl,show j*2+1-n*2=(j-n)*2+1 by omega];exact h2,f⟩
theorem Cs.ext (h:Cs w us n σ ω)(e:Ext w w'):Cs w' us n σ ω:=fun j f=>by
 obtain⟨B,c,h1,h2,o⟩:=h j f
 exact⟨B,c,h1,h2,o.ext e⟩
theorem Cs.zw (h:Cs w us n σ ω)(ho:Own w b 24 2 A n cap us):Zw w A n cap σ ω:=by
 refine⟨ho.rv.le,ho.rv.max,fun i hi=>?_⟩;obtain⟨B,c,F,o,E⟩:=h i hi;have G:=mD ho;obtain⟨a,f,h1⟩:=ho.rv.get (i*2) i9;obtain⟨a',ha',h2⟩:=ho.rv.get (i*2+1) i9;rw [f] at ha';cases ha';rw [bL,F] at h1;rw [bL,o] at h2;exact⟨a,B,c,f,h1,h2,E⟩
end
def sG (w:a6)(a:a7)(m:Nat):List aF:=(eI (m*2)).map fun j=>(w.cell? (a.add j)).getD undef
theorem Zw.cells {a:a7}{σ:Nat→Bool}{ω:Nat→List Nat}(h:Zw w (some a) m c σ ω):(∀j u,(sG w a m)[j]?=some u→w.cell? (a.add j)=some u)∧(sG w a m).all (·.oneCell')=true∧Cs w (sG w a m) m σ ω:=by
 have get:∀j,j<m*2→(sG w a m)[j]?=some ((w.cell? (a.add j)).getD undef):=fun j f=>by
  unfold sG;rw [jM,List.getElem?_range f];rfl
 have F:∀i,i<m→w.cell? (a.add (i*2))=some (.bool (σ i))∧∃B d,w.cell? (a.add (i*2+1))=some (.slice B (ω i).length d)∧Rd w B (ω i).length d (ω i):=fun i hi=>by
  obtain⟨a',B,d,e,h1,h2,E⟩:=h.2.2 i hi
  cases e
  exact⟨h1,B,d,h2,E⟩
 have any:∀j,j<m*2→∃u,w.cell? (a.add j)=some u∧u.oneCell'=true:=fun j f=>by
  obtain⟨h1,B,d,h2,_⟩:=F (j/2) i9
  by_cases e:j%2=0
  ·rw [show j/2*2=j by omega] at h1;exact⟨_,h1,rfl⟩
  ·rw [show j/2*2+1=j by omega] at h2;exact⟨_,h2,rfl⟩
 refine⟨fun j u f=>?_,?_,fun i hi=>?_⟩
 ·have o:j<m*2:=by
   have:=(gU.1 f).1
   unfold sG at this
   rwa [List.length_map,List.length_range] at this
  obtain⟨u',h1,_⟩:=any j o;rw [get j o,h1] at f;rw [h1];exact f
 ·rw [gK];intro u G;unfold sG at G;obtain⟨j,f,rfl⟩:=m4.1 G;obtain⟨u',h1,h2⟩:=any j (j5.1 f);rw [h1];exact h2
 obtain⟨h1,B,d,h2,E⟩:=F i hi;exact⟨B,d,by rw [get _ i9,h1];rfl,by rw [get _ i9,h2];rfl,E⟩
theorem M4 (h:Bk w g t vs):∀j u,vs[j]?=some u→w.cell? ((⟨g,0,none⟩:a7).add j)=some u:=by
 intro j u f;rw [jI,eR];obtain⟨h1,h2⟩:=gU.1 f;rw [h.cell h1,bL,f];rfl
def x9 (A:Option a7)(c lo:Nat):Option a7:=if c=lo then A else A.map (·.add (lo*2))
theorem U6 (A:Option a7)(c lo n:Nat):qZ (if c=lo then A else A.map (·.add (lo*2))) (lo+n-lo) (c-lo)= up (x9 A c lo) n (c-lo):=by rw [Nat.add_sub_cancel_left];rfl
section
variable {us:List aF}{n g k:Nat}{s:Bool}{σ:Nat→Bool}{γ:Nat→Nat}{ω:Nat→List Nat}{xs:List Nat}
theorem Cz.app (h:Cz us n σ γ ω)(hl:us.length=n*2)(hs:σ n=s)(hw:ω n=xs):Cz (us++ [.bool s,up (some ⟨g,0,none⟩) xs.length (xs.length+80)]) (n+1) σ (fun j=>if j=n then g else γ j) ω:=fun j _=>by
 by_cases e:j=n
 ·subst e
  rw [List.getElem?_append_right i9,List.getElem?_append_right i9,hl,Nat.sub_self,show j*2+1-j*2=1 by omega,hs,hw]
  exact⟨rfl,by simp⟩
 ·simp only [if_neg e]
  rw [List.getElem?_append_left i9,List.getElem?_append_left i9]
  exact h j i9
theorem Cw.app (h:Cw us n γ ω)(hl:us.length=n)(hw:ω n=xs):Cw (us++ [up (some ⟨g,0,none⟩) (xs.length+80) (xs.length+80)]) (n+1) (fun j=>if j=n then g else γ j) ω:=fun j _=>by
 by_cases e:j=n
 ·subst e
  rw [List.getElem?_append_right i9,hl,Nat.sub_self,hw]
  simp
 ·simp only [if_neg e]
  rw [List.getElem?_append_left i9]
  exact h j i9
end
def BR (σ:Nat→Bool)(γ:Nat→Nat)(ω:Nat→List Nat)(j:Nat):ZC:=⟨σ j,some ⟨γ j,0,none⟩,(ω j).length,(ω j).length+80⟩
section
variable {b e lb:Nat}{w w':a6}
def wF (b e:Nat)(w w':a6):Prop:=w.heap.size≤w'.heap.size∧∀k,b≤k→k<e→w'.heap[k]?=w.heap[k]?
theorem Own.agr (h:Own w b T s A n cap vs)(a:wF b e w w')(hA:∀p,A=some p→p.block<e):Own w' b T s A n cap vs:=by
 rcases h with h | ⟨g,cs,f,hb,o,q⟩
 ·exact cJ h
 exact cN ⟨g,cs,f,hb,(a.2 g hb (hA _ f)).trans o,q⟩
theorem Zr.agr {s:Bool}(h:Zr w b s A n c x)(a:wF b e w w')(hA:∀p,A=some p→p.block<e):Zr w' b s A n c x:=⟨h.sgn,h.len,h.own.agr a hA⟩
theorem Lz.agr {K:Nat}(h:Lz none K b w b A n cap zs)(a:wF b e w w')(he:w.heap.size≤e):Lz none K b w' b A n cap zs:=by
 have f:=h.block;obtain⟨es,h1,h2,F,E⟩:=h;refine⟨es,h1.agr a (fun p o=>dA (f p o).2 he),h2,F,fun i hi=>⟨(E i hi).1,?_⟩⟩;rcases (E i hi).2 with z | ⟨m,hm,_⟩
 ·exact cJ (z.agr a fun p o=>dA (z.own.block p o).2 he)
 cases hm
end
theorem RS {i:Nat}(hi:i<es.length):(jN es)[i*2+1]?=some (.slice (es.getD i ZC.zero).A (es.getD i ZC.zero).n (es.getD i ZC.zero).c):=by
 induction es generalizing i with
 | nil=>exact absurd hi (Nat.not_lt_zero _)
 | cons a l ih=>
  cases i with
  | zero=>rfl
  | succ i=>
   have:=ih (i:=i) (by simpa using hi)
   rw [show (i+1)*2+1=(i*2+1)+1+1 by omega]
   exact this
def iD (LS:Nat→List Lst):Nat→List Lst
 | 0=> []
 | i+1=>iD LS i++LS i
section
variable {w w':a6}{lb:Nat}
theorem QH {LS:Nat→List Lst}{M:Nat}:∀{n:Nat},(∀i,i<n→(LS i).length≤M)→(iD LS n).length≤n*M
 | 0,_=>by simp [iD]
 | n+1,h=>by
  have h1:=QH (n:=n) fun i hi=>h i i9
  have h2:=h n i9
  rw [iD,f8,Nat.succ_mul];omega
theorem QI {LS:Nat→List Lst}{Q:Lst→Prop}:∀{n:Nat},(∀i,i<n→∀x,x∈LS i→Q x)→∀x,x∈iD LS n→Q x
 | 0,_,x,hx=>by cases hx
 | n+1,h,x,hx=>by
  rcases m5.1 hx with hx | hx
  ·exact QI (n:=n) (fun i hi=>h i i9) x hx
  ·exact h n i9 x hx
theorem Sg.nil (P:Nat→Prop):Sg w lb P []:=⟨⟨fun a _ f=>absurd f (Nat.not_lt_zero _),fun a f=>absurd f (Nat.not_lt_zero _)⟩,fun a f=>absurd f (Nat.not_lt_zero _)⟩
theorem Sg.acc {LS:Nat→List Lst}{bs es:Nat→Nat}:∀{n:Nat},(∀i,i<n→Sg w lb (fun g=>bs i≤g∧g<es i) (LS i))→(∀i j,i<j→j<n→es i≤bs j)→Sg w lb (fun g=>∃i,i<n∧bs i≤g∧g<es i) (iD LS n)
 | 0,_,_=>Sg.nil _
 | n+1,h,hd=>by
  refine ((Sg.acc (n:=n) (fun i hi=>h i i9) (fun i j hij hj=>hd i j hij i9)).app (h n i9) ?_).imp ?_
  ·rintro g ⟨i,hi,_,h2⟩ ⟨h3,_⟩
   have:=hd i n hi i9
   omega
  ·rintro g (⟨i,hi,h1⟩ | h1)
   ·exact⟨i,by omega,h1⟩
   ·exact⟨n,by omega,h1⟩
end
theorem RR {lo:Nat}{σ:Nat→Bool}{γ:Nat→Nat}{ω0 ω:Nat→List Nat}{e:Nat→ZC}(heq:BR σ γ ω0=e)(hf:Fam w lo M γ ω)(hl:∀j,(ω j).length=(ω0 j).length)(hj:j<M)(hK:(ω j).length≤1048576)(hz:z=sg (σ j) (nv (ω j))):Zi w (e j).s (e j).A (e j).n (e j).c z∧(e j).n≤1048576:=by
 subst heq hz;obtain⟨_,o,h⟩:=hf.1 j hj;have f:=E4 h J o (a8 hK yd);rw [hl j] at f hK;exact⟨⟨ω j,f,rfl⟩,hK⟩
theorem a3T (l xs:List Lst)(a b c:Lst):(((l++ [a])++ [b])++ [c])++xs=l++([a]++ [b]++ [c]++xs):=by simp only [List.append_assoc]
theorem KZ (MS:Nat→Lst)(i:Nat):(eI (i+1)).map MS=(eI i).map MS++ [MS i]:=by rw [List.range_succ,List.map_append];rfl
theorem JM {bs qs:Nat→Nat}{n:Nat}(h1:∀i,i<n→bs i≤qs i)(h2:∀i,i+1<n→qs i≤bs (i+1)):∀d i,i+d+1<n→qs i≤bs (i+d+1)
 | 0,i,h=>h2 i h
 | d+1,i,h=>a8 (JM h1 h2 d i i9) (a8 (h1 (i+d+1) i9) (h2 (i+d+1) h))
theorem V2 {bs qs:Nat→Nat}(h1:∀i,i<n→bs i≤qs i)(h2:∀i,i+1<n→qs i≤bs (i+1)):∀i j,i<j→j<n→qs i≤bs j:=fun i j _ _=>by
 have:=JM h1 h2 (j-i-1) i i9
 rwa [show i+(j-i-1)+1=j by omega] at this
def f6 {α:Type}(a b c d e f:α):Nat→α
 | 0=>a
 | 1=>b
 | 2=>c
 | 3=>d
 | 4=>e
 | _=>f
def f3 {α:Type}(a b c:α):Nat→α
 | 0=>a
 | 1=>b
 | _=>c
theorem ZJ {p:Nat→Prop}(h0:p 0)(h1:p 1)(h2:p 2)(h3:p 3)(h4:p 4)(h5:p 5):∀i,i<6→p i
 | 0,_=>h0
 | 1,_=>h1
 | 2,_=>h2
 | 3,_=>h3
 | 4,_=>h4
 | 5,_=>h5
theorem pR {p:Nat→Prop}(h0:p 0)(h1:p 1)(h2:p 2):∀i,i<3→p i
 | 0,_=>h0
 | 1,_=>h1
 | 2,_=>h2
theorem a2M (h0:Rd w A0 x0.length c0 x0)(h1:Rd w A1 x1.length c1 x1)(h2:Rd w A2 x2.length c2 x2)(h3:Rd w A3 x3.length c3 x3)(h4:Rd w A4 x4.length c4 x4)(h5:Rd w A5 x5.length c5 x5):Cs w [.bool s0,up A0 x0.length c0,.bool s1,up A1 x1.length c1,.bool s2,up A2 x2.length c2,.bool s3,up A3 x3.length c3,.bool s4,up A4 x4.length c4,.bool s5,up A5 x5.length c5] 6 (f6 s0 s1 s2 s3 s4 s5) (f6 x0 x1 x2 x3 x4 x5):=fun j f=>by
 match j,f with
 | 0,_=>exact⟨A0,c0,rfl,rfl,h0⟩
 | 1,_=>exact⟨A1,c1,rfl,rfl,h1⟩
 | 2,_=>exact⟨A2,c2,rfl,rfl,h2⟩
 | 3,_=>exact⟨A3,c3,rfl,rfl,h3⟩
 | 4,_=>exact⟨A4,c4,rfl,rfl,h4⟩
 | 5,_=>exact⟨A5,c5,rfl,rfl,h5⟩
theorem NM {α:Type}(a b c d e f:α)(g:Nat→α):∃F,jn 6 (f6 a b c d e f) g=F∧F 0=a∧F 1=b∧F 2=c∧F 3=d∧F 4=e∧F 5=f∧∀j,F (6+j)=g j:=by
 have h:∀j,j<6→jn 6 (f6 a b c d e f) g j=f6 a b c d e f j:=fun j o=>by unfold jn;rw [if_pos o]
 refine⟨_,rfl,h 0 yd,h 1 yd,h 2 yd,h 3 yd,h 4 yd,h 5 yd,fun j=>?_⟩;unfold jn;rw [if_neg i9,show 6+j-6=j by omega]
theorem a0t {α:Type}{P:α→Prop}{F:Nat→α}{a b c d e f:α}{g:Nat→α}(h0:F 0=a)(h1:F 1=b)(h2:F 2=c)(h3:F 3=d)(h4:F 4=e)(h5:F 5=f)(h6:∀j,F (6+j)=g j)(p0:P a)(p1:P b)(p2:P c)(p3:P d)(p4:P e)(p5:P f)(p6:∀j,j<m→P (g j)):∀j,j<6+m→P (F j):=fun j _=>by
 by_cases k:j<6
 ·exact ZJ (p:=fun j=>P (F j)) (by rw [h0];exact p0) (by rw [h1];exact p1) (by rw [h2];exact p2) (by rw [h3];exact p3) (by rw [h4];exact p4) (by rw [h5];exact p5) j k
 ·have:=h6 (j-6)
  rw [show 6+(j-6)=j by omega] at this
  rw [this];exact p6 _ i9
def Ln (w:a6)(A:Option a7)(n:Nat)(vs:List aF):Prop:=vs.length=n*2∧(A=none→n=0)∧vs.all (·.oneCell')=true∧∀a,A=some a→∀j u,vs[j]?=some u→w.cell? (a.add j)=some u
theorem Ln.ext (h:Ln w A n vs)(e:Ext w w'):Ln w' A n vs:=⟨h.1,h.2.1,h.2.2.1,fun a o j u f=>e.cell (h.2.2.2 a o j u f)⟩
theorem Zw.ln {σ:Nat→Bool}{ω:Nat→List Nat}(h:Zw w A m c σ ω):∃vs,Ln w A m vs∧Cs w vs m σ ω:=by
 cases A with
 | none=>
  obtain rfl:m=0:=Nat.eq_zero_of_not_pos fun h0=>by
   obtain⟨a,_,_,e,_⟩:=h.2.2 0 h0
   cases e
  exact⟨[],⟨rfl,fun _=>rfl,rfl,fun a o=>by cases o⟩,fun j f=>absurd f (Nat.not_lt_zero _)⟩
 | some a=>
  obtain⟨h1,h2,E⟩:=h.cells
  exact⟨_,⟨by unfold sG;rw [List.length_map,List.length_range],fun e=>by (cases e),h2,fun a' o j u f=>by cases o;exact h1 j u f⟩,E⟩
theorem YD (h:Own w b 24 2 A n c us)(h1:us.all (·.oneCell')=true){lo:Nat}(hl:lo+m=n):Ln w (x9 A c lo) m (us.drop (lo*2)):=by
 have I:=mD h;have H:=h.rv.le;refine⟨by rw [iK];omega,fun e=>?_,?_,fun a f j u o=>?_⟩
 ·refine Nat.eq_zero_of_not_pos fun hm=>?_;obtain⟨a,f,_⟩:=h.rv.get 0 i9;unfold x9 at e;split at e <;> (rw [f] at e;cases e)
 ·rw [gK] at h1⊢;exact fun u G=>h1 u (q9 G)
 rw [nO] at o;have F:lo*2+j<us.length:=(gU.1 o).1;obtain⟨a',ha',hc⟩:=h.rv.get (lo*2+j) i9;rw [bL,o] at hc;unfold x9 at f;have E:¬c=lo:=by omega
 rw [if_neg E,ha'] at f;have e:=kO f;subst e;rw [Go.Deep.add_add];exact hc
section
variable {Q:Exit→Act→a6→Prop}{N:Nat}{l:Fr}{w:a6}{ops:Array bE}{rest:List bE}{d:Nat}{ty:aS}{pos:String}{af:Array Edge}{gd:Option (Nat×Bool)}
theorem ID {x y:cR}{k:Nat}(hw:dD ops l gd=some true)(hx:cB l x=some (up A k cap))(hy:cB l y=some (up B m c))(h:Own w lb 24 2 A k cap us)(hlb:lb≤w.heap.size)(hz:Ln w B m vs)(hm:k+m≤1099511627776)(hd:d<N)(K:∀A' cap' w',Own w' lb 24 2 A' (k+m) cap' (us++vs)→UpdO A w w'→wl aM ops Q N rest ((d,up A' (k+m) cap')::l) w'):wl aM ops Q N (⟨some d,.call {callee:= .builtin .append,args:= #[x,y],argTypes:= #[27,27]},ty,pos,af,gd⟩::rest) l w:=by
 obtain⟨o,L,G,H⟩:=hz;cases B with
 | none=>
  obtain rfl:=L rfl
  obtain rfl:=List.eq_nil_of_length_eq_zero (l:=vs) i9
  obtain⟨i,hi,_,_,_⟩:=info_parts tP
  have hr:=E3 (P:=aM) w lb 27 ty 24 i 2 fI hi _ k us h.row c
  refine gO hw hd (fun a' f=>?_) (K A cap w (by rw [m7];exact h) (UpdO.refl A w))
  unfold execOp
  simp only [resolve,invoke,builtin,cV,iH,fK,pE,jS,kR,f.ev hx,f.ev hy]
  rw [hr]
  rfl
 | some a=>exact nR hw hx hy fI tP rfl h hlb vs o (fun j u F=>H a rfl j u F) G (hm:=hm) (hn:=hd) fun A' cap' w' E I _=>K A' cap' w' E I
end
theorem Op8.ext {k:Int}(h:Op8 w k x y u v p q bs zs n vv)(e:Ext w w'):Op8 w' k x y u v p q bs zs n vv:=by
 obtain⟨sa,Aa,na,ca,sb,Ab,nb,cb,sd,Ad,nd,cd,se,Ae,ne,ce,sf,Af,nf,cf,sg,Ag,ng,cg,C,c,ms,rfl,h1,h2,U,L,M,V,W,X,Y,H,E,o,G,I,F,f⟩:=h;exact⟨_,_,_,_,_,_,_,_,_,_,_,_,_,_,_,_,_,_,_,_,_,_,_,_,_,_,_,rfl,h1.ext e,h2,U.ext e,L,M.ext e,V,W.ext e,X,Y.ext e,H,E.ext e,o,G.ext e,I,F,f⟩
theorem RE {σ σ':Nat→Bool}{ω ω':Nat→List Nat}(h1:∀i,i<n→σ i=σ' i)(h2:∀i,i<n→ω i=ω' i):lM n σ ω=lM n σ' ω':=by
 unfold lM;refine List.map_congr_left fun i hi=>?_;have:=j5.1 hi;rw [h1 i this,h2 i this]
theorem MG {ω ω':Nat→List Nat}(h2:∀i,i<n→(ω i).length=(ω' i).length):kI n ω=kI n ω':=by
 unfold kI;refine List.map_congr_left fun i hi=>?_;exact h2 i (j5.1 hi)
theorem Zw.op8l {σ:Nat→Bool}{ω:Nat→List Nat}(h:Zw w A n c σ ω)(hn:n≤1048576)(hs:(kI n ω).sum≤1048576):Zl w A n c (lM n σ ω) (kI n ω)∧n≤1048576∧(∀i,(kI n ω).getD i 0≤1048576)∧yP (lM n σ ω):=⟨h.zl,hn,fun i=>a8 (FE _ _) hs,fun k=>ZX h.zl k hn hs⟩
theorem AQ {k:Int}{lo:Nat}{σ:Nat→Bool}{γ:Nat→Nat}{ω0 ω:Nat→List Nat}{e:Nat→ZC}(heq:BR σ γ ω0=e)(ho:Own w lo 24 2 AL n cL us)(hc:Cz us n (fun j=>σ (6+j)) (fun j=>γ (6+j)) fun j=>ω0 (6+j))(hf:Fam w lo' (6+n) γ ω)(hl:∀j,(ω j).length=(ω0 j).length)(hK:∀j,j<6+n→(ω j).length≤1048576)(hs:(kI n fun j=>ω (6+j)).sum≤1048576)(hn:n≤1048576):Op8 w k (sg (σ 0) (nv (ω 0))) (sg (σ 1) (nv (ω 1))) (sg (σ 2) (nv (ω 2))) (sg (σ 3) (nv (ω 3))) (sg (σ 4) (nv (ω 4))) (sg (σ 5) (nv (ω 5))) bs (lM n (fun j=>σ (6+j)) fun j=>ω (6+j)) n
   (.agg #[no k,.bool (e 0).s,.slice (e 0).A (e 0).n (e 0).c,.bool (e 1).s,.slice (e 1).A (e 1).n (e 1).c,.bool (e 2).s,.slice (e 2).A (e 2).n (e 2).c,.bool (e 3).s,.slice (e 3).A (e 3).n (e 3).c,.bool (e 4).s,.slice (e 4).A (e 4).n (e 4).c,.bool (e 5).s,.slice (e 5).A (e 5).n (e 5).c,.string (aN bs),up AL n cL]):=by
 have zi:∀j,j<6→Zi w (e j).s (e j).A (e j).n (e j).c (sg (σ j) (nv (ω j)))∧(e j).n≤1048576:=fun j h=>RR heq hf hl i9 (hK j i9) rfl;have f:Fam w lo' n (fun j=>γ (6+j)) fun j=>ω (6+j):=⟨fun j h=>hf.1 (6+j) i9,fun i j _ h=>hf.2 (6+i) (6+j) i9 i9⟩;have zw:=RC ho hc f (fun j=>hl (6+j)) (aU _) (fun j h=>hK (6+j) i9);obtain⟨o,F,E,G⟩:=zw.op8l hn hs;exact⟨_,_,_,_,_,_,_,_,_,_,_,_,_,_,_,_,_,_,_,_,_,_,_,_,_,_,_,rfl,(zi 0 yd).1,(zi 0 yd).2,(zi 1 yd).1,(zi 1 yd).2,(zi 2 yd).1,(zi 2 yd).2,(zi 3 yd).1,(zi 3 yd).2,(zi 4 yd).1,(zi 4 yd).2,(zi 5 yd).1,(zi 5 yd).2,o,F,E,G⟩
structure AR8 where
 s:Bool
 A:Option a7
 n:Nat
 c:Nat
 s':Bool
 A':Option a7
 n':Nat
 c':Nat
 s2:Bool
 A2:Option a7
 n2:Nat
 c2:Nat
 B:Option a7
 m:Nat
 d:Nat
 N:Int
 S:List Nat
 E:Int
def AR8.cells (r:AR8):List aF:= [.bool r.s,up r.A r.n r.c,.bool r.s',up r.A' r.n' r.c',.bool r.s2,up r.A2 r.n2 r.c2,up r.B r.m r.d,no r.N,.string (aN r.S),no r.E]
def AR8.ls (r:AR8)(xs:List Lst):List Lst:= [⟨r.A,r.n,r.c⟩]++ [⟨r.A',r.n',r.c'⟩]++ [⟨r.A2,r.n2,r.c2⟩]++xs
theorem AR8.ls_len (r:AR8)(xs:List Lst):(r.ls xs).length=3+xs.length:=by
 unfold AR8.ls;simp only [f8,List.length_cons,List.length_nil]
def AnsI8 (b e:Nat)(t:Ans8)(r:AR8)(w:a6):Prop:=
 e≤w.heap.size∧(r.m=t.L.length∧r.N=t.N∧r.S=t.S∧r.E=t.E)∧Zr w b r.s r.A r.n r.c t.F∧Zr w b r.s' r.A' r.n' r.c' t.G∧Zr w b r.s2 r.A2 r.n2 r.c2 t.X∧Ld 1048579 b (fun g=>g<e∧∀p,r.A=some p∨r.A'=some p∨r.A2=some p→p.block≠g) w b r.B r.m r.d t.L∧(ln t.F≤1099511620000∧ln t.G≤1099511620000∧ln t.X≤1099511620000∧(∀c,c∈t.S→c<256)∧t.L.length≤200000000)∧(oD r.A r.A'∧oD r.A r.A2∧oD r.A' r.A2)∧
  (∀p,r.A=some p→p.block<e)∧(∀p,r.A'=some p→p.block<e)∧(∀p,r.A2=some p→p.block<e)∧∀p,r.B=some p→p.block<e
section
variable {b e lb:Nat}{t S:Ans8}{v:aF}{r:AR8}{w w':a6}
theorem AnsR8.cells (h:AnsR8 b t v w):∃r:AR8,v= .agg #[.bool r.s,up r.A r.n r.c,.bool r.s',up r.A' r.n' r.c',.bool r.s2,up r.A2 r.n2 r.c2,up r.B r.m r.d,no r.N,.string (aN r.S),no r.E]∧AnsR8 b t (.agg #[.bool r.s,up r.A r.n r.c,.bool r.s',up r.A' r.n' r.c',.bool r.s2,up r.A2 r.n2 r.c2,up r.B r.m r.d,no r.N,.string (aN r.S),no r.E]) w:=by
 have h0:=h;obtain⟨s,A,n,c,s',A',n',c',s2,f,E,o,B,d,rfl,_⟩:=h;exact⟨⟨s,A,n,c,s',A',n',c',s2,f,E,o,B,t.L.length,d,t.N,t.S,t.E⟩,rfl,h0⟩
theorem AnsA8.i (h:AnsA8 b t v w):∃r:AR8,v= .agg #[.bool r.s,up r.A r.n r.c,.bool r.s',up r.A' r.n' r.c',.bool r.s2,up r.A2 r.n2 r.c2,up r.B r.m r.d,no r.N,.string (aN r.S),no r.E]∧AnsI8 b w.heap.size t r w:=by
 obtain⟨s,A,n,c,s',A',n',c',s2,G,I,H,B,d,rfl,h1,h2,E,o,F,L⟩:=h;exact⟨⟨s,A,n,c,s',A',n',c',s2,G,I,H,B,t.L.length,d,t.N,t.S,t.E⟩,rfl,aU _,⟨rfl,rfl,rfl,rfl⟩,h1,h2,E,o.lt.imp (fun g hg=>⟨hg.2.2,hg.1⟩),F,L,fun p f=>(h1.own.block p f).2,fun p f=>(h2.own.block p f).2,fun p f=>(E.own.block p f).2,fun p f=>(o.block p f).2⟩
theorem AnsI8.agr (h:AnsI8 b e t r w)(a:wF b e w w'):AnsI8 b e t r w':=by
 obtain⟨h0,hm,h1,h2,U,F,G,V,k1,k2,o,E⟩:=h;obtain⟨es,L,I,M,f,H⟩:=F;exact⟨a8 h0 a.1,hm,h1.agr a k1,h2.agr a k2,U.agr a o,⟨es,L.agr a E,I,M,fun i hi=>⟨(f i hi).1,(f i hi).2.1.agr a (fun p W=>((f i hi).2.2 p W).1),(f i hi).2.2⟩,H⟩,G,V,k1,k2,o,E⟩
theorem AnsI8.ext (h:AnsI8 b e t r w)(x:Ext w w'):AnsI8 b e t r w':=h.agr ⟨x.size,fun k _ f=>x.below.block k (dA f h.1)⟩
theorem AnsI8.upT {lo hi:Nat}(h:AnsI8 b e t r w)(u:UpT lo hi w w')(hle:hi≤b):AnsI8 b e t r w':=h.agr ⟨u.size,fun k hb f=>u.out k (dA f h.1) (cN (a8 hle hb))⟩
theorem AnsI8.toR (h:AnsI8 b e t r w):AnsR8 b t (.agg #[.bool r.s,up r.A r.n r.c,.bool r.s',up r.A' r.n' r.c',.bool r.s2,up r.A2 r.n2 r.c2,up r.B r.m r.d,no r.N,.string (aN r.S),no r.E]) w:=by
 obtain⟨h0,⟨hm,hN,o,E⟩,h1,h2,G,f,⟨F,H,I,L⟩,_⟩:=h;rw [hm] at f⊢;rw [hN,o,E];exact⟨_,_,_,_,_,_,_,_,_,_,_,_,_,_,rfl,h1,h2,G,f.lz,a8 F yd,a8 H yd,a8 I yd,L⟩
theorem AnsI8.be (h:AnsI8 b e t r w):e≤w.heap.size:=h.1
theorem AnsI8.ml (h:AnsI8 b e t r w):r.m≤200000000:=by
 obtain⟨h0,⟨hm,_⟩,h1,h2,_,_,⟨_,_,_,_,f⟩,_⟩:=h;rw [hm];exact f
theorem AnsI8.book (h:AnsI8 b e t r w)(hlb:lb≤b):∃(xs:List Lst) (us:List aF),Sg w lb (fun g=>b≤g∧g<e) (r.ls xs)∧Own w lb 24 2 r.B r.m r.d us∧xs.length=r.m∧(∀i,i<r.m→us[i*2+1]?=some (xs.getD i Lst.z).v)∧(∀p,r.B=some p→b≤p.block∧p.block<e)∧∀x,x∈r.ls xs→x.n≤1099511620000:=by
 obtain⟨h0,hm,h1,h2,H,W,⟨X,Z,h7,_⟩,⟨h8,h9,U⟩,k1,k2,Y,k4⟩:=h;obtain⟨es,V,g2,_,G,g5⟩:=W
 have gl:∀i,i<r.m→(es.map fun x:ZC=>(⟨x.A,x.n,x.c⟩:Lst)).getD i Lst.z=⟨(es.getD i ZC.zero).A,(es.getD i ZC.zero).n,(es.getD i ZC.zero).c⟩:=fun i hi=>by
  simp only [bL,jM,cT (show i<es.length by omega)];rfl
 have o:(es.map fun x:ZC=>(⟨x.A,x.n,x.c⟩:Lst)).length=r.m:=by rw [List.length_map,g2]
 have blk:∀{s:Bool}{A:Option a7}{n c:Nat}{x:Int},Zr w b s A n c x→∀p,A=some p→b≤p.block:=fun z p f=>(z.own.block p f).1;refine⟨es.map fun x:ZC=>(⟨x.A,x.n,x.c⟩:Lst),jN es,?_,V.mono hlb,o,fun i hi=>?_,fun p f=>⟨(V.block p f).1,k4 p f⟩,fun x hx=>?_⟩
 ·have s1:Sg w lb (fun g=>∃p,r.A=some p∧p.block=g) [⟨r.A,r.n,r.c⟩]:=Sg.one (h1.own.mono hlb) (fun p f=>⟨p,f,rfl⟩);have s2:Sg w lb (fun g=>∃p,r.A'=some p∧p.block=g) [⟨r.A',r.n',r.c'⟩]:=Sg.one (h2.own.mono hlb) (fun p f=>⟨p,f,rfl⟩);have s3:Sg w lb (fun g=>∃p,r.A2=some p∧p.block=g) [⟨r.A2,r.n2,r.c2⟩]:=Sg.one (H.own.mono hlb) (fun p f=>⟨p,f,rfl⟩)
  have s4:Sg w lb (fun g=>b≤g∧g<e∧∀p,r.A=some p∨r.A'=some p∨r.A2=some p→p.block≠g) (es.map fun x:ZC=>(⟨x.A,x.n,x.c⟩:Lst)):=by
   refine⟨⟨fun i j hi I M p q f E=>?_,fun i hi=>?_⟩,fun i hi p f=>?_⟩
   ·rw [o] at hi I
    rw [gl i hi] at f
    rw [gl j I] at E
    exact g5 i j hi I M p q f E
   ·rw [o] at hi
    rw [gl i hi]
    exact⟨_,(G i hi).2.1.own.mono hlb,fun h=>absurd h (Nat.not_lt_zero _),fun _=>rfl⟩
   ·rw [o] at hi
    rw [gl i hi] at f
    exact⟨blk (G i hi).2.1 p f,(G i hi).2.2 p f⟩
  have L:=s1.app s2 (by rintro g ⟨p,f,rfl⟩ ⟨q,E,e'⟩;exact h8 p q f E e'.symm)
  have F:=L.app s3 (by
   rintro g (⟨p,f,rfl⟩ | ⟨p,f,rfl⟩) ⟨q,E,e'⟩
   ·exact h9 p q f E e'.symm
   ·exact U p q f E e'.symm)
  refine (F.app s4 ?_).imp ?_
  ·rintro g ((⟨p,f,rfl⟩ | ⟨p,f,rfl⟩) | ⟨p,f,rfl⟩) ⟨_,_,E⟩
   ·exact E p (cJ f) rfl
   ·exact E p (cN (cJ f)) rfl
   exact E p (cN (cN f)) rfl
  rintro g (((⟨p,f,rfl⟩ | ⟨p,f,rfl⟩) | ⟨p,f,rfl⟩) | hg)
  ·exact⟨blk h1 p f,k1 p f⟩
  ·exact⟨blk h2 p f,k2 p f⟩
  ·exact⟨blk H p f,Y p f⟩
  exact⟨hg.1,hg.2.1⟩
 ·rw [gl i hi];exact RS i9
 unfold AR8.ls at hx;simp only [m5,List.mem_cons,List.not_mem_nil,or_false] at hx;rcases hx with ((rfl | rfl) | rfl) | hx
 ·exact a8 (Nat.le_of_eq h1.len) X
 ·exact a8 (Nat.le_of_eq h2.len) Z
 ·exact a8 (Nat.le_of_eq H.len) h7
 obtain⟨z,hz,rfl⟩:=m4.1 hx;obtain⟨i,hi,rfl⟩:=wQ hz;have:=(G i i9).1;rw [bL,cT hi] at this;exact a8 this yd
theorem AnsR8.agr (h:AnsR8 b t v w)(a:wF b e w w')(he:w.heap.size≤e):AnsR8 b t v w':=by
 obtain⟨s,A,n,c,s',A',n',c',s2,_,_,_,B,d,rfl,h1,h2,o,E,F⟩:=h;exact⟨_,_,_,_,_,_,_,_,_,_,_,_,_,_,rfl,h1.agr a (fun p f=>dA (h1.own.block p f).2 he),h2.agr a (fun p f=>dA (h2.own.block p f).2 he),o.agr a (fun p f=>dA (o.own.block p f).2 he),E.agr a he,F⟩
section
variable {k x y u q z:Int}{p v:Int}{vv:aF}{zs:List Int}{n:Nat}{bs:List Nat}
theorem OC (hb:b≤w.heap.size)(h:Op8 w k x y u v p q bs zs n vv)(hbs:∀b,b∈bs→b<256)(hlen:bs.length≤1048576)(hS:mX k x y u v p q bs zs=S):aQ aM 5 #[vv] w (Gv w (AnsR8 b S)):=hS▸a01 hb h hbs hlen
theorem FN (hb:b≤w.heap.size)(h:Op8 w k x y u v p q bs zs n vv)(hbs:∀b,b∈bs→b<256)(hlen:bs.length≤1048576)(hs:Signs w)(hS:mX k x y u v p q bs zs=S):aQ aM 8 #[vv] w (Gv w (AnsA8 b S)):=hS▸a1w hb h hbs hlen hs
end
end
theorem at3 {r0 r1 r2:AR8}(h:Bk w g 33 (r0.cells++r1.cells++r2.cells)){i:Nat}(hi:i<3):∃p,(some (⟨g,0,none⟩:a7)).map (·.add (i*10))=some p∧∀w',Ext w w'→(loadVar 33 p).run aM w'= .ok (.agg (f3 r0 r1 r2 i).cells.toArray) w':=by
 refine⟨_,rfl,fun w' x=>tJ iC _ J fun j o=>?_⟩
 have key:∀q,q<30→w'.cell? ((⟨g,0,none⟩:a7).add q)=some ((r0.cells++r1.cells++r2.cells).getD q undef):=fun q E=>by
  rw [jI,eR];exact (h.ext x).cell E
 rw [oY];have f:j<10:=o
 match i,hi with
 | 0,_=>exact (key (0*10+j) i9).trans (by match j,f with | 0,_=>rfl | 1,_=>rfl | 2,_=>rfl | 3,_=>rfl | 4,_=>rfl | 5,_=>rfl | 6,_=>rfl | 7,_=>rfl | 8,_=>rfl | 9,_=>rfl)
 | 1,_=>exact (key (1*10+j) i9).trans (by match j,f with | 0,_=>rfl | 1,_=>rfl | 2,_=>rfl | 3,_=>rfl | 4,_=>rfl | 5,_=>rfl | 6,_=>rfl | 7,_=>rfl | 8,_=>rfl | 9,_=>rfl)
 | 2,_=>exact (key (2*10+j) i9).trans (by match j,f with | 0,_=>rfl | 1,_=>rfl | 2,_=>rfl | 3,_=>rfl | 4,_=>rfl | 5,_=>rfl | 6,_=>rfl | 7,_=>rfl | 8,_=>rfl | 9,_=>rfl)
def UpJ (lb:Nat)(w w':a6):Prop:=UpK lb w w'∧∀(k:Nat) (cs:Array aF) (t:aS) (fr:Nat×Nat),w.heap[k]?=some (.cells cs t fr)→t≠22→t≠48→w'.heap[k]?=some (.cells cs t fr)
section
variable {lb:Nat}{a b c w w':a6}
theorem UpJ.k (h:UpJ lb w w'):UpK lb w w':=h.1
theorem UpJ.size (h:UpJ lb w w'):w.heap.size≤w'.heap.size:=h.1.size
theorem UpJ.trans (h:UpJ lb a b)(e:UpJ lb b c):UpJ lb a c:=⟨h.1.trans e.1,fun k cs t fr f h1 h2=>e.2 k cs t fr (h.2 k cs t fr f h1 h2) h1 h2⟩
theorem UpJ.of_ext (lb:Nat)(e:Ext w w'):UpJ lb w w':=⟨UpK.of_ext lb e,fun _ _ _ _ f _ _=>e.heap f⟩
theorem UpJ.refl (lb:Nat)(w:a6):UpJ lb w w:=UpJ.of_ext lb bN
theorem UpJ.own (h:UpJ lb w w')(ho:Own w base t s A n cap vs)(h1:t≠22)(h2:t≠48):Own w' base t s A n cap vs:=by
 rcases ho with ho | ⟨g,cs,o,hb,f,r⟩
 ·exact cJ ho
 exact cN ⟨g,cs,o,hb,h.2 g _ _ _ f h1 h2,r⟩
theorem UpJ.ofO (_:True)(ho:Own w lb 22 s A n cap vs)(u:UpdO A w w'):UpJ lb w w':=by
 refine⟨UpK.ofO (cJ J) ho u,fun k cs t fr h1 h2 _=>u.heap h1 fun p f e=>h2 ?_⟩;rcases ho with⟨h,_⟩ | ⟨g,cs',E,_,o,_⟩
 ·rw [h] at f;cases f
 rw [E] at f;cases f;simp only at e;subst e;unfold Bk at o;rw [o] at h1;injection h1 with h1;injection h1 with _ h1;exact h1.symm
theorem UpJ.ofU (hb:Bk w g 48 vs)(hg:lb≤g)(u:Upd g w w'):UpJ lb w w':=by
 refine⟨UpK.ofU hb hg u,fun k cs t fr h1 _ h2=>u.heap h1 fun e=>h2 ?_⟩;subst e;unfold Bk at hb;rw [hb] at h1;injection h1 with h1;injection h1 with _ h1;exact h1.symm
end
def a35 (w:a6)(lb g n:Nat)(ls:List Lst)(x:Lst)(u v:aF)(e:Ending)(w':a6):Prop:=
 e= .returned (.tuple #[])∧UpJ lb w w'∧∃WA c,Bk w' g 48 [up WA (n+1) c,u,v]∧Own w' lb 22 1 WA (n+1) c ((ls++ [x]).map Lst.v)
theorem BO {iv nv:aF}{ls:List Lst}(hB:Bk w g 48 [up WA n wc,iv,nv])(hW:Own w lb 22 1 WA n wc (ls.map Lst.v))(hlb:lb≤w.heap.size)(hg:lb≤g)(hn:n≤1099511600000){s:Bool}:aQ aM 13 #[i5 g 0,O s A m c] w (a35 w lb g n ls ⟨A,m,c⟩ iv nv):=by
 refine bU Tryz.func13 15 J (sr (nQ J J (vs:= (a5 s A m c)) J fun g1 v2 nb=>?_));have ak:=nb.bk;have bd:w.heap.size≤g1:=by rw [←nb.at_];exact (UpJ.refl lb w).size
 have W:=nb.ext;clear nb;have ar:UpJ lb w v2:=(UpJ.refl lb w).trans (UpJ.of_ext lb W);refine aG (f9 [(0,i5 g 0),(1,O s A m c),(3,i5 g1 0)] (aP J) ?_);obtain⟨v6,hv,U⟩:=gH v2;have aq:UpJ lb w v6:=ar.trans (UpJ.of_ext lb U);obtain⟨g8,v9,I,V,ah⟩:=MH v6 22 [up A m c];have Z:=I.bk;have F:=I.ext;have ag:UpJ lb w v9:=aq.trans (UpJ.of_ext lb F);have h:=(hW.ext (W.t (U.t F)));obtain⟨f,E,G,ab,H,L,_⟩:=AH (P:=aM) (ty:=36) mU xZ J yd yd h (a8 hlb ag.size) (m:=1) (c:=1) (news:= [up A m c]) J (EJ Z) J i9;have o:=(hB.ext (W.t (U.t F))).byOK h yd L;rw [EY] at H;have am:UpJ lb v9 G:=UpJ.ofO ym h L;have au:UpJ lb w G:=ag.trans am;obtain⟨M,X,ai,Y,_⟩:=xE (P:=aM) (v:= up f (n+1) E) (T:=36) ye J o (show 0<3 by decide) J [up f (n+1) E,iv,nv] rfl;have ao:UpJ lb G M:=UpJ.ofU o hg Y;have ae:=(H).updT o yd Y;have aw:UpJ lb w M:=au.trans ao;refine gJ cM v6 [i5 g 0,i5 g 0,i5 g 0,i5 g 0,up WA n wc,i5 g1 1,up A m c,up (some ⟨g8,0,none⟩) 1 1,up f (n+1) E,i5 g 0,i5 g 0,undef] [v6,v9,G,M] [7,8,11] [[],[],[1],[2],[3],[],[5],[6],[4,7],[0],[9],[8,10]] [(0,0),(0,1),(0,2),(1,0),(1,1),(2,0),(2,1),(3,0),(3,1),(4,0),(4,1),(5,0),(6,0),(7,0),(8,1),(9,2),(10,2),(11,2)] J hv ?_ ?_
 ·refine aR J (cC J) (aR J (cC J) (aR J (cC J) (aR J (cC J) (aR J (cC J) (aR J (iO J) (aR J (iO J) (aR J (iO J) (aR J (iO J) (aR J (cS J (cE ye (hB.ext (W.t U)) J)) (aR J (cS J (cE ye (hB.ext (W.t (U.t F))) J)) (aR J (iO J) (aR J (cS J (cE dY (ak.ext U) J)) (yC _ J J J J J J (KP J ye V ah) ?_)))))))))))));exact yC _ J J J J J J (KQ J J ab) (aR J (iO J) (aR J (iO J) (fV _ J J J J J J (fQ J J X) gI)))
 refine fU [(0,i5 g 0),(1,O s A m c),(3,i5 g1 0),(4,i5 g 0),(5,i5 g 0),(6,i5 g 0),(7,i5 g 0),(8,up WA n wc),(9,i5 g1 1),(10,up A m c),(11,up (some ⟨g8,0,none⟩) 1 1),(12,up f (n+1) E),(13,i5 g 0),(14,i5 g 0)] (aP J) (sA [] J xl ?_);exact⟨rfl,aw,f,E,ai,ae⟩
def LO (b n:Nat)(us:List aF)(v:aF)(w:a6):Prop:=∃A c,v= up A n c∧Own w b 24 2 A n c us
theorem YE (h:Own w b 24 2 A n c us)(h1:us.all (·.oneCell')=true):Ln w A n us:=by
 have f:=mD h;refine⟨f,fun e=>?_,h1,fun a o j u E=>?_⟩
 ·subst e;refine Nat.eq_zero_of_not_pos fun hm=>?_;obtain⟨a,o,_⟩:=h.rv.get 0 i9;cases o
 have F:=(gU.1 E).1;obtain⟨a',ha',hc⟩:=h.rv.get j i9;rw [bL,E] at hc;rw [o] at ha';cases ha';exact hc
section
variable {us:List aF}{n:Nat}{σ:Nat→Bool}{γ:Nat→Nat}{ω:Nat→List Nat}
theorem PL (h:Cz us n σ γ ω)(hl:us.length=n*2):us.all (·.oneCell')=true:=by
 rw [gK];intro u f;obtain⟨i,hi,rfl⟩:=wQ f;obtain⟨h1,h2⟩:=h (i/2) i9;by_cases e:i%2=0
 ·rw [show i/2*2=i by omega,cT hi] at h1;injection h1 with h1;rw [h1];rfl
 rw [show i/2*2+1=i by omega,cT hi] at h2;injection h2 with h2;rw [h2];rfl
theorem a2B (h:Cz us (6+n) σ γ ω):Cz (us.drop (6*2)) n (fun j=>σ (6+j)) (fun j=>γ (6+j)) (fun j=>ω (6+j)):=fun j _=>by
 obtain⟨h1,h2⟩:=h (6+j) i9
 rw [nO,nO,show 6*2+j*2=(6+j)*2 by omega,show 6*2+(j*2+1)=(6+j)*2+1 by omega]
 exact⟨h1,h2⟩
theorem a2C {e:Nat→ZC}(he:BR σ γ ω=e)(h:Cz us n (fun j=>σ (6+j)) (fun j=>γ (6+j)) (fun j=>ω (6+j))):Cz ([.bool (e 0).s,.slice (e 0).A (e 0).n (e 0).c,.bool (e 1).s,.slice (e 1).A (e 1).n (e 1).c,.bool (e 2).s,.slice (e 2).A (e 2).n (e 2).c,.bool (e 3).s,.slice (e 3).A (e 3).n (e 3).c,.bool (e 4).s,.slice (e 4).A (e 4).n (e 4).c,.bool (e 5).s,.slice (e 5).A (e 5).n (e 5).c]++us) (6+n) σ γ ω:=fun j f=>by
 subst he
 match j,f with
 | 0,_=>exact⟨rfl,rfl⟩
 | 1,_=>exact⟨rfl,rfl⟩
 | 2,_=>exact⟨rfl,rfl⟩
 | 3,_=>exact⟨rfl,rfl⟩
 | 4,_=>exact⟨rfl,rfl⟩
 | 5,_=>exact⟨rfl,rfl⟩
 | j+6,f=>
  obtain⟨h1,h2⟩:=h j i9
  rw [Nat.add_comm j 6,List.getElem?_append_right (by show 12≤_;omega),List.getElem?_append_right (by show 12≤_;omega)]
  exact⟨(congrArg (us[·]?) (show (6+j)*2-12=j*2 by omega)).trans h1,(congrArg (us[·]?) (show (6+j)*2+1-12=j*2+1 by omega)).trans h2⟩
end
section
variable {w:a6}{lo n:Nat}{γ:Nat→Nat}{ω:Nat→List Nat}
theorem Fam.front (h:Fam w lo (6+n) γ ω):Fam w lo 6 γ ω:=⟨fun j o=>h.1 j i9,fun i j f o=>h.2 i j f i9⟩
theorem Fam.back (h:Fam w lo (6+n) γ ω):Fam w lo n (fun j=>γ (6+j)) (fun j=>ω (6+j)):=⟨fun j f=>h.1 (6+j) i9,fun i j _ f=>h.2 (6+i) (6+j) i9 i9⟩
theorem Fam.le5 (h:Fam w lo (6+n) γ ω)(hj:j<6):γ j≤γ 5:=by
 rcases Nat.eq_or_lt_of_le (show j≤5 by omega) with e | e
 ·rw [e];exact aU _
 exact Nat.le_of_lt (h.2 j 5 e i9)
end
def HN8 (b n:Nat)(k:Int)(bs:List Nat)(ζ:Nat→Bool)(Ω:Nat→List Nat)(v:aF)(w:a6):Prop:=
 ∃AL cL AW cW γ us ws e,BR ζ γ Ω=e∧v= .tuple #[.agg #[no k,.bool (e 0).s,.slice (e 0).A (e 0).n (e 0).c,.bool (e 1).s,.slice (e 1).A (e 1).n (e 1).c,.bool (e 2).s,.slice (e 2).A (e 2).n (e 2).c,.bool (e 3).s,.slice (e 3).A (e 3).n (e 3).c,.bool (e 4).s,.slice (e 4).A (e 4).n (e 4).c,.bool (e 5).s,.slice (e 5).A (e 5).n (e 5).c,.string (aN bs),up AL n cL],up AW (6+n) cW]∧
  Own w b 24 2 AL n cL us∧Cz us n (fun j=>ζ (6+j)) (fun j=>γ (6+j)) (fun j=>Ω (6+j))∧Own w b 22 1 AW (6+n) cW ws∧Cw ws (6+n) γ Ω∧Fam w b (6+n) γ Ω
def AnsV8 (b e:Nat)(t:Ans8)(v:aF)(w:a6):Prop:=∃w0,AnsR8 b t v w0∧w0.heap.size=e∧wF b e w0 w
section
variable {b e lo hi:Nat}{t:Ans8}{v:aF}{w w':a6}
theorem AnsR8.toV (h:AnsR8 b t v w):AnsV8 b w.heap.size t v w:=⟨w,h,rfl,aU _,fun _ _ _=>rfl⟩
theorem AnsV8.ext (h:AnsV8 b e t v w)(x:Ext w w'):AnsV8 b e t v w':=by
 obtain⟨w0,h1,h2,f⟩:=h;exact⟨w0,h1,h2,a8 f.1 x.size,fun k hb o=>(x.below.block k (by have:=f.1;omega)).trans (f.2 k hb o)⟩
theorem AnsV8.upT (h:AnsV8 b e t v w)(u:UpT lo hi w w')(hle:e≤lo):AnsV8 b e t v w':=by
 obtain⟨w0,h1,h2,f⟩:=h;exact⟨w0,h1,h2,a8 f.1 u.size,fun k hb o=>(u.out k (by have:=f.1;omega) (cJ i9)).trans (f.2 k hb o)⟩
theorem AnsV8.r (h:AnsV8 b e t v w):AnsR8 b t v w:=by
 obtain⟨w0,h1,h2,f⟩:=h;exact h1.agr f (Nat.le_of_eq h2)
end
theorem a3O {MS:Nat→Lst}{us:Nat→List aF}{bs es:Nat→Nat}(ho:∀i,i<n→Own w lb 24 2 (MS i).A (MS i).n (MS i).c (us i))(hr:∀i,i<n→∀p,(MS i).A=some p→bs i≤p.block∧p.block<es i)(hd:∀i j,i<j→j<n→es i≤bs j∨es j≤bs i):Ai1 w lb ((eI n).map MS) 0 0:=by
 have f:((eI n).map MS).length=n:=by rw [List.length_map,List.length_range]
 have gl:∀i,i<n→((eI n).map MS).getD i Lst.z=MS i:=fun i hi=>by
  rw [bL,jM,List.getElem?_range hi];rfl
 refine⟨fun a b o hb E p q G F=>?_,fun a o=>?_⟩
 ·rw [f] at o hb;rw [gl a o] at G;rw [gl b hb] at F;have h1:=hr a o p G;have h2:=hr b hb q F;rcases Nat.lt_or_gt_of_ne E with h | h
  ·have:=hd a b h hb;omega
  have:=hd b a h o;omega
 rw [f] at o;rw [gl a o];exact⟨us a,ho a o,fun h=>absurd h (Nat.not_lt_zero _),fun _=>Mk.zero _ _ _⟩
section
variable {Q:Exit→Act→a6→Prop}{N:Nat}{l:Fr}{w:a6}{ops:Array bE}{rest:List bE}{d:Nat}{ty:aS}{pos:String}{af:Array Edge}{gd:Option (Nat×Bool)}
theorem SJ {x y:cR}(hw:dD ops l gd=some true)(hx:cB l x=some (up A 0 cap))(hy:cB l y=some (up B m c))(h:Own w lb 24 2 A 0 cap [])(hlb:lb≤w.heap.size)(hz:Ln w B m vs)(hm:m≤1099511627776)(hd:d<N)(K:∀A' cap' w',Own w' lb 24 2 A' m cap' vs→UpdO A w w'→wl aM ops Q N rest ((d,up A' m cap')::l) w'):wl aM ops Q N (⟨some d,.call {callee:= .builtin .append,args:= #[x,y],argTypes:= #[27,27]},ty,pos,af,gd⟩::rest) l w:=by
 refine ID (k:=0) hw hx hy h hlb hz i9 hd fun A' cap' w' f o=>?_;rw [eR] at f⊢;exact K A' cap' w' f o
end
theorem HC {σ:Nat→Bool}{ω:Nat→List Nat}(h:Zw w A n cap σ ω){i:Nat}(hi:i<n):∃p,A.map (·.add (i*2))=some p∧∃B c,(∀w',Ext w w'→∀(P:cO) (T:aS),AggT P T 2→(loadVar T p).run P w'= .ok (.agg #[.bool (σ i),.slice B (ω i).length c]) w')∧(∀w',Ext w w'→w'.cell? (p.add 1)=some (.slice B (ω i).length c))∧(∀w',Ext w w'→w'.cell? (p.add 0)=some (.bool (σ i)))∧Rd w B (ω i).length c (ω i):=by
 obtain⟨p,B,c,h1,h2,o,f⟩:=h.at_ hi;obtain⟨a,B',c',e,k1,_,_⟩:=h.2.2 i hi;refine⟨p,h1,B,c,h2,o,fun w' x=>?_,f⟩;rw [e] at h1;cases h1;rw [oY];exact x.cell k1
theorem OG {d:Nat}(hx:Rd w A n c xs)(hy:Rd w B m d xs)(hn:n≤1099511627776):aQ aM 46 #[up A n c,up B m d] w (Gv w (Is (we))):=by
 have e:n=m:=hx.len.symm.trans hy.len;have h:=KO hx hn hy i9;rw [decide_eq_true rfl] at h;exact h.mono BH
theorem a1x (hx:Rd w Aa xs.length ca xs)(hal:xs.length≤1048576)(hy:Rd w Ab xs.length cb xs):aQ aM 11 #[O sa Aa xs.length ca,O sa Ab xs.length cb] w (Gv w (Is (we))):=by
 refine bU Tryz.func11 17 J (sr (nQ J J (vs:= (a5 sa Aa xs.length ca)) J fun E W nb=>?_));have gw_g1:w.heap.size≤E:=by rw [←nb.at_];exact aU _
 have h:=nb.bk;have U:w.heap.size≤E:=by rw [←nb.at_];exact (Ext.refl w).size
 have M:=nb.ext;clear nb;have I:=(Ext.refl w).trans M;refine nQ J J (vs:= (a5 sa Ab xs.length cb)) J fun F _ nb=>?_;have gw_g6:W.heap.size≤F:=by rw [←nb.at_];exact aU _
 have o:=nb.bk;have L:w.heap.size≤F:=by rw [←nb.at_];exact I.size
 have V:E<F:=by rw [←nb.at_];exact h.lt
 have H:=nb.ext;clear nb;have f:=I.trans H;refine aE 1 J (aD ?_);cases sa
 ·refine bH (pf E 0 J (bG (cE eW (h.ext H) J) J (pf F 0 J (bG (cE eW o J) J (aA (we) J (mv 1 J (pf E 1 J (bG (cE dY (h.ext H) J) J (pf F 1 J (bG (cE dY o J) J (bI [up Aa xs.length ca,up Ab xs.length cb] f (OG (hx.ext f) (hy.ext f) i9) J ?_)))))))))));rintro _ _ rfl _ G;refine aA (we) J (aE 1 J (bA (aZ [we] J ⟨rfl,xl⟩ ?_)));exact⟨_,rfl,rfl,G⟩
 refine bH (pf E 0 J (bG (cE eW (h.ext H) J) J (pf F 0 J (bG (cE eW o J) J (aA (we) J (mv 1 J (pf E 1 J (bG (cE dY (h.ext H) J) J (pf F 1 J (bG (cE dY o J) J (bI [up Aa xs.length ca,up Ab xs.length cb] f (OG (hx.ext f) (hy.ext f) i9) J ?_)))))))))));rintro _ _ rfl _ G;refine aA (we) J (aE 1 J (bA (aZ [we] J ⟨rfl,xl⟩ ?_)));exact⟨_,rfl,rfl,G⟩
theorem FM {k:Int}(hL:Ln w AL n vs)(hn:n≤1048576):aQ aM 10 #[.agg #[no k,.bool s0,up A0 n0 c0,.bool s1,up A1 n1 c1,.bool s2,up A2 n2 c2,.bool s3,up A3 n3 c3,.bool s4,up A4 n4 c4,.bool s5,up A5 n5 c5,.string (aN bs),up AL n cL]] w (Gv w (LO w.heap.size (6+n) ([.bool s0,up A0 n0 c0,.bool s1,up A1 n1 c1,.bool s2,up A2 n2 c2,.bool s3,up A3 n3 c3,.bool s4,up A4 n4 c4,.bool s5,up A5 n5 c5]++vs))):=by
 refine bU Tryz.func10 25 J (sr (nQ J J (vs:= [no k,.bool s0,up A0 n0 c0,.bool s1,up A1 n1 c1,.bool s2,up A2 n2 c2,.bool s3,up A3 n3 c3,.bool s4,up A4 n4 c4,.bool s5,up A5 n5 c5,.string (aN bs),up AL n cL]) J fun h _ nb=>?_));have gw_g1:w.heap.size≤h:=by rw [←nb.at_];exact aU _
 have f:=nb.bk;have Z:w.heap.size≤h:=by rw [←nb.at_];exact (Ext.refl w).size
 have Y:=nb.ext;clear nb;have I:=(Ext.refl w).trans Y;refine aE 1 J (sr (pf h 1 J (pf h 1 J (lo aB f (a5 s0 A0 n0 c0) J J J (pf h 1 J (pf h 3 J (lo aB f (a5 s1 A1 n1 c1) J J J (pf h 5 J (pf h 5 J (lo aB f (a5 s2 A2 n2 c2) J J J (pf h 5 J (pf h 7 J ?_))))))))))));refine lo aB f (a5 s3 A3 n3 c3) J J J (pf h 9 J (lo aB f (a5 s4 A4 n4 c4) J J J (pf h 11 J (lo aB f (a5 s5 A5 n5 c5) J J J (iF J J (k:=6) (e:=24) [.bool s0,up A0 n0 c0,.bool s1,up A1 n1 c1,.bool s2,up A2 n2 c2,.bool s3,up A3 n3 c3,.bool s4,up A4 n4 c4,.bool s5,up A5 n5 c5] ye fun g6 _ nb=>?_)))));have X:=nb.bk;have M:w.heap.size≤g6:=by rw [←nb.at_];exact I.size
 have L:=nb.ext;clear nb;have E:=I.trans L;have H:=Own.mk_ (s:=2) M X (aU 6) (by rw [eV];decide) J rfl;refine aE 1 J (aV 1 J (pf h 14 J (dG (f.ext L) J ?_)));have o:=H;refine ID J J J o E.size (hL.ext E) i9 yd fun U V _ F G=>?_;have W:=G.ext E (fun p hp=>(o.block p hp).1);refine aE 1 J (bA (aZ [up U (6+n) V] J ⟨rfl,xl⟩ ?_));exact⟨_,rfl,⟨_,_,rfl,F⟩,W⟩
theorem a1q {k:Int}{ζ:Nat→Bool}{Ω:Nat→List Nat}(hL:Ln w AL n vs)(hcs:Cs w ([.bool s0,up A0 n0 c0,.bool s1,up A1 n1 c1,.bool s2,up A2 n2 c2,.bool s3,up A3 n3 c3,.bool s4,up A4 n4 c4,.bool s5,up A5 n5 c5]++vs) (6+n) ζ Ω)(hK:∀j,j<6+n→(Ω j).length≤1048576)(hn:n≤1048576):aQ aM 7 #[.agg #[no k,.bool s0,up A0 n0 c0,.bool s1,up A1 n1 c1,.bool s2,up A2 n2 c2,.bool s3,up A3 n3 c3,.bool s4,up A4 n4 c4,.bool s5,up A5 n5 c5,.string (aN bs),up AL n cL]] w (Gv w (HN8 w.heap.size n k bs ζ Ω)):=by
 refine bU Tryz.func7 81 J (sr (nQ J J (vs:= [no k,.bool s0,up A0 n0 c0,.bool s1,up A1 n1 c1,.bool s2,up A2 n2 c2,.bool s3,up A3 n3 c3,.bool s4,up A4 n4 c4,.bool s5,up A5 n5 c5,.string (aN bs),up AL n cL]) J fun g1 v2 nb=>?_));have gw_g1:w.heap.size≤g1:=by rw [←nb.at_];exact aU _
 have cv:=nb.bk;have jk:w.heap.size≤g1:=by rw [←nb.at_];exact (Ext.refl w).size
 have e3:=nb.ext;clear nb;have I:=(Ext.refl w).trans e3;refine iL J (z:= .agg #[I0,F0,S0,F0,S0,F0,S0,F0,S0,F0,S0,F0,S0,.string ⟨#[]⟩,S0]) (vs:= [I0,F0,S0,F0,S0,F0,S0,F0,S0,F0,S0,F0,S0,.string ⟨#[]⟩,S0]) ye J fun g6 v7 nb=>?_;have gw_g6:v2.heap.size≤g6:=by rw [←nb.at_];exact aU _
 have fy:=nb.bk;have ge:w.heap.size≤g6:=by rw [←nb.at_];exact I.size
 have jo:g1<g6:=by rw [←nb.at_];exact cv.lt
 have e8:=nb.ext;clear nb;have bo:=I.trans e8;refine aE 1 J (sr (pf g1 0 J (dG (cv.ext e8) J (pf g1 13 J (dG (cv.ext e8) J (aA (.agg #[no k,F0,S0,F0,S0,F0,S0,F0,S0,F0,S0,F0,S0,.string (aN bs),S0]) J (iL J (z:= .agg #[I0,F0,S0,F0,S0,F0,S0,F0,S0,F0,S0,F0,S0,.string ⟨#[]⟩,S0]) (vs:= [I0,F0,S0,F0,S0,F0,S0,F0,S0,F0,S0,F0,S0,.string ⟨#[]⟩,S0]) ye J fun F _ nb=>?_)))))));have gw_g12:v7.heap.size≤F:=by rw [←nb.at_];exact aU _
 have gy:=nb.bk;have ag:w.heap.size≤F:=by rw [←nb.at_];exact bo.size
 have jp:g6<F:=by rw [←nb.at_];exact fy.lt
 have dr:=nb.ext;clear nb;have bj:=bo.trans dr;refine so lP gy [no k,F0,S0,F0,S0,F0,S0,F0,S0,F0,S0,F0,S0,.string (aN bs),S0] bj ag J J J J fun _ gx fp ak=>(aG (sr (aE 1 J (sr (lo lP ((cv.ext (e8.t dr)).vN fp) [no k,.bool s0,up A0 n0 c0,.bool s1,up A1 n1 c1,.bool s2,up A2 n2 c2,.bool s3,up A3 n3 c3,.bool s4,up A4 n4 c4,.bool s5,up A5 n5 c5,.string (aN bs),up AL n cL] J J J (bI [.agg #[no k,.bool s0,up A0 n0 c0,.bool s1,up A1 n1 c1,.bool s2,up A2 n2 c2,.bool s3,up A3 n3 c3,.bool s4,up A4 n4 c4,.bool s5,up A5 n5 c5,.string (aN bs),up AL n cL]] ak (FM (hL.ext ak) hn) J ?_))))));rintro _ jc ⟨f,o,rfl,fv⟩ iB V;refine aE 1 J (sr (aE 1 J (aD (aD ?_))));have ix:=fv;have ef:=(((fy.ext dr).vN fp).ext iB);have ej:=(gx.ext iB);have cj:=V;obtain⟨wO,hq⟩:∃q,q=w:=⟨_,rfl⟩;subst hq;obtain⟨w,hq⟩:∃q,q=jc:=⟨_,rfl⟩;subst hq;refine bH (aE 1 J (bO ?_));refine dC (T:=a6×Nat×Option a7×Nat×(Nat→Nat)×Option a7×Nat×List aF×List aF) (fun⟨wr,i,AX,cX,γ,AW,cW,us,ws⟩=> [(2,i5 g6 0),(4,i5 F 0),(5,up AW i cW),(6,up f (6+n) o),(7,up AX i cX),(8,no i)]) (fun⟨wr,i,AX,cX,γ,AW,cW,us,ws⟩=>wr) (fun⟨wr,i,AX,cX,γ,AW,cW,us,ws⟩=>(Ext w wr)∧(i≤6+n)∧(Own wr w.heap.size 24 2 AX i cX us)∧(Own wr w.heap.size 22 1 AW i cW ws)∧(Cz us i ζ γ Ω)∧(Cw ws i γ Ω)∧(Fam wr w.heap.size i γ Ω)) (fun⟨wr,i,AX,cX,γ,AW,cW,us,ws⟩=>6+n-i) (⟨w,0,none,0,(fun _=>0),none,0,[],[]⟩:a6×Nat×Option a7×Nat×(Nat→Nat)×Option a7×Nat×List aF×List aF) ⟨bN,(bX _),(Own.nil _ _ _ _),(Own.nil _ _ _ _),(fun _ h=>absurd h (Nat.not_lt_zero _)),(fun _ h=>absurd h (Nat.not_lt_zero _)),Fam.zero⟩ J (aP J) ?_;rintro⟨wr,i,AX,cX,γ,AW,cW,us,ws⟩ ⟨I,hi,hX,hW,hC,hD,hF⟩;refine fW [(2,i5 g6 0),(4,i5 F 0),(5,up AW i cW),(6,up f (6+n) o),(7,up AX i cX),(8,no i)] wr J (aP J) (aD (aD ?_));by_cases iz:i<6+n
 ·refine aK 2 J (aA (no ((6+n):Nat)) J (aH J (dV i (6+n) J) (aG (bC J (bB (aL (aD (bO (aV 2 J ?_)))))))));obtain⟨ab,bp,ij,fq,_,ch,du,dg⟩:=HC ((hcs.ext cj).zw ix) (i:=i) i9;refine cA fI aB.size i ab bp J (aA (.pointer (some (ab.add 1))) J (bG (d5 ye (ch _ I)) J ?_));have je:=((dg.ext I)).wf;have ir:=fun j hj=>(hF).lt (j:=j) hj;have fw:=I.size;refine bI [up ij ((Ω i).length) fq] I (a1A (dg.ext I) (a8 (hK _ iz) yd)) J ?_;rintro _ _ ⟨W,rfl,de,gb⟩ cp bo;refine aE 1 J (aV 2 J (iF J J (k:=1) (e:=22) [up (some ⟨W,0,none⟩) ((Ω i).length+80) ((Ω i).length+80)] ye fun _ _ dm=>?_));have gk:=dm.bk;have bm:=dm.ext;have bj:=bo.trans bm;have ae:=(hW.ext (cp.t bm));refine nR J J J mU xZ J ae bj.size [up (some ⟨W,0,none⟩) ((Ω i).length+80) ((Ω i).length+80)] J (M4 gk) J fun iy jf _ ia az _=>?_;have ak:=az.ext bj (fun p hp=>by have:=(ae.block p hp).1;omega);refine aE 1 J ?_;refine dW cM 16 [] [Is (up AX i cX),Is (up f (6+n) o),Is (no i),Is (.pointer (some ab)),Is (.pointer (some (ab.add 0))),Is (.bool (ζ i)),Is (up (some ⟨W,0,none⟩) ((Ω i).length+80) ((Ω i).length+80)),Is (up f (6+n) o),Is (no i),Is (.pointer (some ab)),Is (.pointer (some (ab.add 1))),Is (up ij ((Ω i).length) fq),Is (no ((Ω i).length:Nat)),Is (up (some ⟨W,0,none⟩) ((Ω i).length) ((Ω i).length+80)),Is (.agg #[.bool (ζ i),up (some ⟨W,0,none⟩) ((Ω i).length) ((Ω i).length+80)]),fun v' w'=>∃g,v'= up (some ⟨g,0,none⟩) 1 1∧Bk w' g 24 [.bool (ζ i),up (some ⟨W,0,none⟩) ((Ω i).length) ((Ω i).length+80)]] [[],[],[],[1,2],[3],[4],[],[],[],[7,8],[9],[10],[11],[6,12],[5,13],[14]] rfl (bY J ?_ ?_ ?_ ?_ (bY J ?_ ?_ ?_ ?_ (bY J ?_ ?_ ?_ ?_ (bY J ?_ ?_ ?_ ?_ dN)))) ?_
  ·exact fun _ _=>aC (mv 1 J (aI J))
  ·exact fun _ _=>aC (mv 1 J (aI J))
  ·exact fun _ _=>aC (mv 1 J (aI J))
  ·exact fun _ _=>aY J (aC (cA fI aB.size i ab bp J (aI J)))
  ·exact fun _ _=>aO J (aC (aA (.pointer (some (ab.add 0))) J (aI J)))
  ·intro _ kD;have V:=ak.trans kD;refine aO J (aC (bG (d5 ye (du _ V)) J ?_));exact aI rfl
  ·exact fun _ _=>aC (mv 1 J (aI J))
  ·exact fun _ _=>aC (mv 1 J (aI J))
  ·exact fun _ _=>aC (mv 1 J (aI J))
  ·exact fun _ _=>aY J (aC (cA fI aB.size i ab bp J (aI J)))
  ·exact fun _ _=>aO J (aC (aA (.pointer (some (ab.add 1))) J (aI J)))
  ·intro _ gf;have V:=ak.trans gf;refine aO J (aC (bG (d5 ye (ch _ V)) J ?_));exact aI rfl
  ·exact fun _ _=>aO J (aC (aA (no ((Ω i).length:Nat)) J (aI J)))
  ·exact fun _ _=>aY J (aC (mS J J cH bZ (lo:=0) (hi:=(Ω i).length) J J i9 i9 (v:= up (some ⟨W,0,none⟩) ((Ω i).length) ((Ω i).length+80)) (zW _ _ _) yd (aI J)))
  ·exact fun _ _=>aY J (aC (aA (.agg #[.bool (ζ i),up (some ⟨W,0,none⟩) ((Ω i).length) ((Ω i).length+80)]) J (aI J)))
  ·intro fz cz;have V:=ak.trans cz;refine aO J (aC (iF J J (k:=1) (e:=24) [.bool (ζ i),up (some ⟨W,0,none⟩) ((Ω i).length) ((Ω i).length+80)] ye fun bw _ nb=>?_));have jd:∀p,AX=some p→p.block≠bw:=fun p hp=>by have:=((((hX.ext (cp.t bm)).updOT ae yd az).ext cz)).block p hp;have:=nb.at_;omega
   have gw_g146:fz.heap.size≤bw:=by rw [←nb.at_];exact aU _
   have ew:=nb.bk;have iu:w.heap.size≤bw:=by rw [←nb.at_];exact V.size
   have df:=nb.ext;clear nb;have ct:=V.trans df;exact bQ J df ⟨_,rfl,ew⟩
  intro _ av;have V:=ak.trans av;refine d6 J (d6 J (d6 J (aY J ?_)));refine aO J (aW J ?_);rintro _ _ ⟨_,rfl,ai⟩ _ ga;have ai:=ai.ext ga;refine aC ?_;have Y:=(((hX.ext (cp.t bm)).updOT ae yd az).ext av);refine nR J J J fI tP J Y V.size [.bool (ζ i),up (some ⟨W,0,none⟩) ((Ω i).length) ((Ω i).length+80)] J (M4 ai) J fun ib io fo el aj _=>?_;have ct:=aj.ext V (fun p hp=>by have:=(Y.block p hp).1;omega);refine bS 1 J (dM (bT (aL (aK 1 J (bD J (cK i 1 J) (bS 1 J (cP (⟨fo,i+1,ib,io,_,iy,jf,_,_⟩:a6×Nat×Option a7×Nat×(Nat→Nat)×Option a7×Nat×List aF×List aF) ⟨ct,i9,el,((ia.ext av).updOT Y yd aj),(hC.app (g:=W) (mD hX) J J),(hD.app (g:=W) (by have:=hW.rv.len;omega) J),(Fam.snoc ((((hF.ext (cp.t bm)).updOT ae yd az).ext av).updOT Y yd aj) je ((((gb.ext bm).updOT ae yd az).ext av).updOT Y yd aj) (a8 fw de) (fun j hj=>dA (ir j hj) de))⟩ (show 6+n-(i+1)<6+n-i by omega) J (aP J))))))))
 obtain rfl:i=6+n:=by omega
 have ja:=cj.trans I;replace hX:=hX.mono cj.size;replace hW:=hW.mono cj.size;replace hF:=hF.mono cj.size;have ji:=hX.rv.le;replace ef:=ef.ext I;replace ej:=ej.ext I;clear I;obtain⟨wM,hq⟩:∃q,q=w:=⟨_,rfl⟩;subst hq;obtain⟨w,hq⟩:∃q,q=wO:=⟨_,rfl⟩;subst hq;have I:=ja;refine aK 2 J (aA (no ((6+n):Nat)) J (aH J (dQ (6+n) (6+n) J) (aG (aT J (d9 (cY (d7 (d8 (aL (aD ?_))))))))));obtain⟨ba,en,dy⟩:=rN hX (i:=0) i9 (hC 0 i9).1 (hC 0 i9).2;obtain⟨bd,fk,ei⟩:=rN hX (i:=1) i9 (hC 1 i9).1 (hC 1 i9).2;refine f9 [(2,i5 g6 0),(4,i5 F 0),(5,up AW (6+n) cW),(6,up f (6+n) o),(7,up AX (6+n) cX),(8,no (6+n:Nat)),(17,no (6+n:Nat)),(18,up f (6+n) o),(19,no ((6+n):Nat)),(20,wk)] (aP J) ?_;obtain⟨da,hv,E⟩:=gH wr;have bo:=I.trans E;have G:=(ej.ext E);obtain⟨dl,fe,dw,L,_⟩:=gP [.bool (ζ 0),.slice (some ⟨γ 0,0,none⟩) (Ω 0).length ((Ω 0).length+80),.bool (ζ 1),.slice (some ⟨γ 1,0,none⟩) (Ω 1).length ((Ω 1).length+80)] 1 bJ G [no k,.bool (ζ 0),.slice (some ⟨γ 0,0,none⟩) (Ω 0).length ((Ω 0).length+80),.bool (ζ 1),.slice (some ⟨γ 1,0,none⟩) (Ω 1).length ((Ω 1).length+80),F0,S0,F0,S0,F0,S0,F0,S0,.string (aN bs),S0] rfl;have bj:=L.ext bo ag;refine gJ cM da [up AX (6+n) cX,.pointer (some ba),.agg #[.bool (ζ 0),.slice (some ⟨γ 0,0,none⟩) (Ω 0).length ((Ω 0).length+80)],up AX (6+n) cX,.pointer (some bd),.agg #[.bool (ζ 1),.slice (some ⟨γ 1,0,none⟩) (Ω 1).length ((Ω 1).length+80)],.agg #[.bool (ζ 0),.slice (some ⟨γ 0,0,none⟩) (Ω 0).length ((Ω 0).length+80),.bool (ζ 1),.slice (some ⟨γ 1,0,none⟩) (Ω 1).length ((Ω 1).length+80)],i5 F 1,undef] [da,dl] [8] [[],[0],[1],[],[3],[4],[2,5],[],[6,7]] [(0,0),(1,0),(2,0),(3,0),(4,0),(5,0),(6,0),(7,0),(8,0)] J hv ?_ ?_
 ·exact aR J (cC J) (aR J (gG J J fI aB.size 0 J ba en) (aR J (cS J (dy _ E _ _ aB)) (aR J (cC J) (aR J (gG J J fI aB.size 1 J bd fk) (aR J (cS J (ei _ E _ _ aB)) (aR J (iO J) (aR J (iO J) (fV _ J J J J J J (fQ J J fe) gI))))))))
 refine fU [(2,i5 g6 0),(4,i5 F 0),(5,up AW (6+n) cW),(6,up f (6+n) o),(7,up AX (6+n) cX),(8,no (6+n:Nat)),(17,no (6+n:Nat)),(18,up f (6+n) o),(19,no ((6+n):Nat)),(20,wk),(50,up AX (6+n) cX),(51,.pointer (some ba)),(52,.agg #[.bool (ζ 0),.slice (some ⟨γ 0,0,none⟩) (Ω 0).length ((Ω 0).length+80)]),(53,up AX (6+n) cX),(54,.pointer (some bd)),(55,.agg #[.bool (ζ 1),.slice (some ⟨γ 1,0,none⟩) (Ω 1).length ((Ω 1).length+80)]),(56,.agg #[.bool (ζ 0),.slice (some ⟨γ 0,0,none⟩) (Ω 0).length ((Ω 0).length+80),.bool (ζ 1),.slice (some ⟨γ 1,0,none⟩) (Ω 1).length ((Ω 1).length+80)]),(57,i5 F 1)] (aP J) (aL (aD ?_));obtain⟨ci,fb,eh⟩:=rN ((hX.ext E).updT G yd L) (i:=2) i9 (hC 2 i9).1 (hC 2 i9).2;obtain⟨bu,fg,dt⟩:=rN ((hX.ext E).updT G yd L) (i:=3) i9 (hC 3 i9).1 (hC 3 i9).2;refine f9 [(2,i5 g6 0),(4,i5 F 0),(5,up AW (6+n) cW),(6,up f (6+n) o),(7,up AX (6+n) cX),(8,no (6+n:Nat)),(17,no (6+n:Nat)),(18,up f (6+n) o),(19,no ((6+n):Nat)),(20,wk),(50,up AX (6+n) cX),(51,.pointer (some ba)),(52,.agg #[.bool (ζ 0),.slice (some ⟨γ 0,0,none⟩) (Ω 0).length ((Ω 0).length+80)]),(53,up AX (6+n) cX),(54,.pointer (some bd)),(55,.agg #[.bool (ζ 1),.slice (some ⟨γ 1,0,none⟩) (Ω 1).length ((Ω 1).length+80)]),(56,.agg #[.bool (ζ 0),.slice (some ⟨γ 0,0,none⟩) (Ω 0).length ((Ω 0).length+80),.bool (ζ 1),.slice (some ⟨γ 1,0,none⟩) (Ω 1).length ((Ω 1).length+80)]),(57,i5 F 1)] (aP J) ?_;obtain⟨dh,hv,H⟩:=gH dl;have ak:=bj.trans H;have M:=(dw.ext H);obtain⟨fx,fc,X,aa,_⟩:=gP [.bool (ζ 2),.slice (some ⟨γ 2,0,none⟩) (Ω 2).length ((Ω 2).length+80),.bool (ζ 3),.slice (some ⟨γ 3,0,none⟩) (Ω 3).length ((Ω 3).length+80)] 5 bJ M [no k,.bool (ζ 0),.slice (some ⟨γ 0,0,none⟩) (Ω 0).length ((Ω 0).length+80),.bool (ζ 1),.slice (some ⟨γ 1,0,none⟩) (Ω 1).length ((Ω 1).length+80),.bool (ζ 2),.slice (some ⟨γ 2,0,none⟩) (Ω 2).length ((Ω 2).length+80),.bool (ζ 3),.slice (some ⟨γ 3,0,none⟩) (Ω 3).length ((Ω 3).length+80),F0,S0,F0,S0,.string (aN bs),S0] rfl;have V:=aa.ext ak ag;refine gJ cM dh [up AX (6+n) cX,.pointer (some ci),.agg #[.bool (ζ 2),.slice (some ⟨γ 2,0,none⟩) (Ω 2).length ((Ω 2).length+80)],up AX (6+n) cX,.pointer (some bu),.agg #[.bool (ζ 3),.slice (some ⟨γ 3,0,none⟩) (Ω 3).length ((Ω 3).length+80)],.agg #[.bool (ζ 2),.slice (some ⟨γ 2,0,none⟩) (Ω 2).length ((Ω 2).length+80),.bool (ζ 3),.slice (some ⟨γ 3,0,none⟩) (Ω 3).length ((Ω 3).length+80)],i5 F 5,undef] [dh,fx] [8] [[],[0],[1],[],[3],[4],[2,5],[],[6,7]] [(0,0),(1,0),(2,0),(3,0),(4,0),(5,0),(6,0),(7,0),(8,0)] J hv ?_ ?_
 ·exact aR J (cC J) (aR J (gG J J fI aB.size 2 J ci fb) (aR J (cS J (eh _ H _ _ aB)) (aR J (cC J) (aR J (gG J J fI aB.size 3 J bu fg) (aR J (cS J (dt _ H _ _ aB)) (aR J (iO J) (aR J (iO J) (fV _ J J J J J J (fQ J J fc) gI))))))))
 refine fU [(2,i5 g6 0),(4,i5 F 0),(5,up AW (6+n) cW),(6,up f (6+n) o),(7,up AX (6+n) cX),(8,no (6+n:Nat)),(17,no (6+n:Nat)),(18,up f (6+n) o),(19,no ((6+n):Nat)),(20,wk),(50,up AX (6+n) cX),(51,.pointer (some ba)),(52,.agg #[.bool (ζ 0),.slice (some ⟨γ 0,0,none⟩) (Ω 0).length ((Ω 0).length+80)]),(53,up AX (6+n) cX),(54,.pointer (some bd)),(55,.agg #[.bool (ζ 1),.slice (some ⟨γ 1,0,none⟩) (Ω 1).length ((Ω 1).length+80)]),(56,.agg #[.bool (ζ 0),.slice (some ⟨γ 0,0,none⟩) (Ω 0).length ((Ω 0).length+80),.bool (ζ 1),.slice (some ⟨γ 1,0,none⟩) (Ω 1).length ((Ω 1).length+80)]),(57,i5 F 1),(58,up AX (6+n) cX),(59,.pointer (some ci)),(60,.agg #[.bool (ζ 2),.slice (some ⟨γ 2,0,none⟩) (Ω 2).length ((Ω 2).length+80)]),(61,up AX (6+n) cX),(62,.pointer (some bu)),(63,.agg #[.bool (ζ 3),.slice (some ⟨γ 3,0,none⟩) (Ω 3).length ((Ω 3).length+80)]),(64,.agg #[.bool (ζ 2),.slice (some ⟨γ 2,0,none⟩) (Ω 2).length ((Ω 2).length+80),.bool (ζ 3),.slice (some ⟨γ 3,0,none⟩) (Ω 3).length ((Ω 3).length+80)]),(65,i5 F 5)] (aP J) (aL (aD ?_));obtain⟨ft,dz,dx⟩:=rN ((((hX.ext E).updT G yd L).ext H).updT M yd aa) (i:=4) i9 (hC 4 i9).1 (hC 4 i9).2;refine aK 1 J (cA fI aB.size 4 ft dz J (bG (dx _ bN _ _ aB) J (pf F 9 J (so aB X [no k,.bool (ζ 0),.slice (some ⟨γ 0,0,none⟩) (Ω 0).length ((Ω 0).length+80),.bool (ζ 1),.slice (some ⟨γ 1,0,none⟩) (Ω 1).length ((Ω 1).length+80),.bool (ζ 2),.slice (some ⟨γ 2,0,none⟩) (Ω 2).length ((Ω 2).length+80),.bool (ζ 3),.slice (some ⟨γ 3,0,none⟩) (Ω 3).length ((Ω 3).length+80),.bool (ζ 4),.slice (some ⟨γ 4,0,none⟩) (Ω 4).length ((Ω 4).length+80),F0,S0,.string (aN bs),S0] V ag J J J J fun _ ao au ct=>(aG (aD ?_))))));obtain⟨ig,fd,ee⟩:=rN (((((hX.ext E).updT G yd L).ext H).updT M yd aa).updT X yd au) (i:=5) i9 (hC 5 i9).1 (hC 5 i9).2;refine aK 1 J (cA fI aB.size 5 ig fd J (bG (ee _ bN _ _ aB) J (pf F 11 J (so aB ao [no k,.bool (ζ 0),.slice (some ⟨γ 0,0,none⟩) (Ω 0).length ((Ω 0).length+80),.bool (ζ 1),.slice (some ⟨γ 1,0,none⟩) (Ω 1).length ((Ω 1).length+80),.bool (ζ 2),.slice (some ⟨γ 2,0,none⟩) (Ω 2).length ((Ω 2).length+80),.bool (ζ 3),.slice (some ⟨γ 3,0,none⟩) (Ω 3).length ((Ω 3).length+80),.bool (ζ 4),.slice (some ⟨γ 4,0,none⟩) (Ω 4).length ((Ω 4).length+80),.bool (ζ 5),.slice (some ⟨γ 5,0,none⟩) (Ω 5).length ((Ω 5).length+80),.string (aN bs),S0] ct ag J J J J fun _ ey bi gg=>(aG (sr (iF J J (k:=0) (e:=24) [] ye fun il _ nb=>?_)))))));have fj:=nb.bk;have fa:w.heap.size≤il:=by rw [←nb.at_];exact gg.size
 have ah:=nb.ext;clear nb;have gi:=gg.trans ah;have em:=Own.mk_ (s:=2) fa fj (aU 0) (by rw [eV];decide) J rfl;refine mv 1 J (mS J J fI aB.size (lo:=6) (hi:=6+n) J J i9 i9 (v:= up (x9 AX cX 6) n (cX-6)) (U6 _ _ _ _) yd ?_);have U:=em;refine SJ J J J U gi.size (YD (((((((hX.ext E).updT G yd L).ext H).updT M yd aa).updT X yd au).updT ao yd bi).ext ah) (PL hC (mD hX)) J) i9 yd fun bf aw _ fh Z=>?_;have jg:=Z.ext gi (fun p hp=>(U.block p hp).1);refine pf F 14 J ?_;have am:=((ey.ext ah).updOT U yd Z);refine g9 am [no k,.bool (ζ 0),.slice (some ⟨γ 0,0,none⟩) (Ω 0).length ((Ω 0).length+80),.bool (ζ 1),.slice (some ⟨γ 1,0,none⟩) (Ω 1).length ((Ω 1).length+80),.bool (ζ 2),.slice (some ⟨γ 2,0,none⟩) (Ω 2).length ((Ω 2).length+80),.bool (ζ 3),.slice (some ⟨γ 3,0,none⟩) (Ω 3).length ((Ω 3).length+80),.bool (ζ 4),.slice (some ⟨γ 4,0,none⟩) (Ω 4).length ((Ω 4).length+80),.bool (ζ 5),.slice (some ⟨γ 5,0,none⟩) (Ω 5).length ((Ω 5).length+80),.string (aN bs),up bf n aw] J fun _ eg ar _=>?_;refine aG (sr (lo lP eg [no k,.bool (ζ 0),.slice (some ⟨γ 0,0,none⟩) (Ω 0).length ((Ω 0).length+80),.bool (ζ 1),.slice (some ⟨γ 1,0,none⟩) (Ω 1).length ((Ω 1).length+80),.bool (ζ 2),.slice (some ⟨γ 2,0,none⟩) (Ω 2).length ((Ω 2).length+80),.bool (ζ 3),.slice (some ⟨γ 3,0,none⟩) (Ω 3).length ((Ω 3).length+80),.bool (ζ 4),.slice (some ⟨γ 4,0,none⟩) (Ω 4).length ((Ω 4).length+80),.bool (ζ 5),.slice (some ⟨γ 5,0,none⟩) (Ω 5).length ((Ω 5).length+80),.string (aN bs),up bf n aw] J J J (mv 1 J ?_)));have aq:=(((((((((ef.ext E).vN L).ext H).vN aa).vN au).vN bi).ext ah).updOT U yd Z).vN ar);refine so lP aq [no k,.bool (ζ 0),.slice (some ⟨γ 0,0,none⟩) (Ω 0).length ((Ω 0).length+80),.bool (ζ 1),.slice (some ⟨γ 1,0,none⟩) (Ω 1).length ((Ω 1).length+80),.bool (ζ 2),.slice (some ⟨γ 2,0,none⟩) (Ω 2).length ((Ω 2).length+80),.bool (ζ 3),.slice (some ⟨γ 3,0,none⟩) (Ω 3).length ((Ω 3).length+80),.bool (ζ 4),.slice (some ⟨γ 4,0,none⟩) (Ω 4).length ((Ω 4).length+80),.bool (ζ 5),.slice (some ⟨γ 5,0,none⟩) (Ω 5).length ((Ω 5).length+80),.string (aN bs),up bf n aw] (ar.ext jg ag) ge J J J J fun _ ez br ik=>(aE 1 J (bA (aZ [.agg #[no k,.bool (ζ 0),.slice (some ⟨γ 0,0,none⟩) (Ω 0).length ((Ω 0).length+80),.bool (ζ 1),.slice (some ⟨γ 1,0,none⟩) (Ω 1).length ((Ω 1).length+80),.bool (ζ 2),.slice (some ⟨γ 2,0,none⟩) (Ω 2).length ((Ω 2).length+80),.bool (ζ 3),.slice (some ⟨γ 3,0,none⟩) (Ω 3).length ((Ω 3).length+80),.bool (ζ 4),.slice (some ⟨γ 4,0,none⟩) (Ω 4).length ((Ω 4).length+80),.bool (ζ 5),.slice (some ⟨γ 5,0,none⟩) (Ω 5).length ((Ω 5).length+80),.string (aN bs),up bf n aw],up AW (6+n) cW] J ⟨⟨_,rfl,bK lP ez [no k,.bool (ζ 0),.slice (some ⟨γ 0,0,none⟩) (Ω 0).length ((Ω 0).length+80),.bool (ζ 1),.slice (some ⟨γ 1,0,none⟩) (Ω 1).length ((Ω 1).length+80),.bool (ζ 2),.slice (some ⟨γ 2,0,none⟩) (Ω 2).length ((Ω 2).length+80),.bool (ζ 3),.slice (some ⟨γ 3,0,none⟩) (Ω 3).length ((Ω 3).length+80),.bool (ζ 4),.slice (some ⟨γ 4,0,none⟩) (Ω 4).length ((Ω 4).length+80),.bool (ζ 5),.slice (some ⟨γ 5,0,none⟩) (Ω 5).length ((Ω 5).length+80),.string (aN bs),up bf n aw] J (bq J) rfl⟩,rfl,xl⟩ ?_)));exact⟨_,rfl,⟨_,_,_,_,γ,_,_,_,rfl,rfl,((fh.updT am yd ar).updT aq yd br),a2B hC,((((((((((hW.ext E).updT G yd L).ext H).updT M yd aa).updT X yd au).updT ao yd bi).ext ah).updOT U yd Z).updT am yd ar).updT aq yd br),hD,((((((((((hF.ext E).updT G yd L).ext H).updT M yd aa).updT X yd au).updT ao yd bi).ext ah).updOT U yd Z).updT am yd ar).updT aq yd br)⟩,ik⟩
theorem a0n (w:a6):aQ aM 4 #[] w (uE true w):=by
 go_enter Tryz.func4,Tryz.ntmps4
 go_wp2_with fail
 refine (NJ (v:=4) i9 i9).mono ?_;rintro e w1 ⟨s1,A1,n1,c1,rfl,z1,hx1⟩;have b1:n1≤1:=z1.le (by decide+kernel)
 go_wp2_with fail
 have h6:=Zi.six w1;obtain⟨wc,hwc⟩:∃wc,w1.alloc (.cells #[.int .u64 6,.int .u64 0] 43)=wc:=⟨_,rfl⟩;have hec:Ext w1 wc:=by rw [←hwc];exact (Ext.refl w1).alloc _
 rw [hwc] at h6⊢;refine (pX (aU _) (z1.zi.ext hec) i9 h6 i9).mono ?_;rintro e w2 ⟨_,rfl,⟨_,_,rfl,hfa,rfl⟩,hx2⟩;obtain⟨s8,A8,n8,c8,s9,A9,n9,c9,rfl,z8,z9⟩:=FA.fr _ _ hfa;clear hfa;have eN:bW 4 (-6)= -2:=by decide+kernel
 have eD:cD 4 (-6)=3:=by decide+kernel
 rw [show ((4:Nat):Int)=4 from rfl,eN] at z8;rw [show ((4:Nat):Int)=4 from rfl,eD] at z9;have b8:n8≤1:=z8.le (by decide+kernel);have b9:n9≤1:=z9.le (by decide+kernel);have e2:Ext w w2:=hx1.trans (hec.trans hx2);clear hwc
 go_upto_region 2 with (fail)
 obtain⟨g,wb,hg,hwb,hb1,heb,l2⟩:=Q8 w2 26 [.bool s8,up A8 n8 c8,.bool s9,up A9 n9 c9];rw [hg,hwb];clear hwb hg;have z8:=z8.ext heb;have z9:=z9.ext heb;have ewb:=e2.trans heb;obtain⟨⟨a0,a1,a2,a3⟩,a4⟩:=hb1.four;have hlit:Zr ((wb.alloc (.cells #[t9 2] 43)).drew) wb.heap.size true (some ⟨wb.heap.size,0,none⟩) 1 1 (-2):=(Zr.lit wb (s:=true) (v:=2) (z:= -2) i9 i9 yd).ext ((Ext.refl _).drew)
 go_region_held3 (fun w'=>w'.cell? ⟨g,0,none⟩=some (.bool s8)∧w'.cell? ⟨g,1,none⟩=some (up A8 n8 c8)∧w'.cell? ⟨g,2,none⟩=some (.bool s9)∧w'.cell? ⟨g,3,none⟩=some (up A9 n9 c9)) (go_keep)
  (first
  | (go_at_call 11;(with_reducible refine (xY (z8.ext yn) i9 hlit i9 (b:=true) yd).mono ?_);rintro e w4 ⟨rfl,hx4⟩;have he4:Ext wb w4:=Ext.trans yn hx4;clear a0 a1 a2 a3 a4;obtain⟨⟨a0,a1,a2,a3⟩,a4⟩:=(hb1.ext he4).four)
  | (go_at_call 17;refine (NJ (v:=3) i9 i9).mono ?_;rintro e w5 ⟨s5,A5,n5,c5,rfl,z5,hx5⟩;have he5:Ext wb w5:=Ext.trans yn hx5;have b5:n5≤1:=z5.le (by decide+kernel);clear a0 a1 a2 a3 a4;obtain⟨⟨a0,a1,a2,a3⟩,a4⟩:=(hb1.ext he5).four)
  | (go_at_call 11;(with_reducible refine (xY (z9.ext yn) i9 z5 i9 (b:=true) ym).mono ?_);rintro e w6 ⟨rfl,hx6⟩;have he6:Ext wb w6:=Ext.trans yn hx6;clear a0 a1 a2 a3 a4;obtain⟨⟨a0,a1,a2,a3⟩,a4⟩:=(hb1.ext he6).four))
 go_wp2_with fail
 go_ret
 exact⟨rfl,ewb.trans yn⟩
theorem a1l (w:a6):aQ aM 4 #[] w (Gv w (Is (we))):=(a0n w).mono BH
theorem a0f {ω:Nat→List Nat}(h:(kI n ω).sum≤M):∀i,i<n→(ω i).length≤M:=fun i hi=>by
 have:=FE (kI n ω) i
 rw [MF hi] at this;omega
theorem TB {i:Nat}(h:i<xs.length):(gF i xs++ms).set i (((((gF i xs++ms).getD i 0*3)%18446744073709551616+i)%18446744073709551616+1)%18446744073709551616)=gF (i+1) xs++ms:=by
 rw [Nat.mul_comm];exact TC h
theorem a0o {k:Int}{σ:Nat→Bool}{ω:Nat→List Nat}(h0:Rd w A0 x0.length c0 x0)(l0:x0.length≤1048576)(h1:Rd w A1 x1.length c1 x1)(l1:x1.length≤1048576)(h2:Rd w A2 x2.length c2 x2)(l2:x2.length≤1048576)(h3:Rd w A3 x3.length c3 x3)(l3:x3.length≤1048576)(h4:Rd w A4 x4.length c4 x4)(l4:x4.length≤1048576)(h5:Rd w A5 x5.length c5 x5)(l5:x5.length≤1048576)(hl:Zw w AL n cL σ ω)(hsum:(kI n ω).sum≤1048576)(hn:n≤1048576)(hbs:∀b,b∈bs→b<256)(hlen:bs.length≤1048576)(hS:Signs w):aQ aM 3 #[.agg #[no k,.bool s0,up A0 x0.length c0,.bool s1,up A1 x1.length c1,.bool s2,up A2 x2.length c2,.bool s3,up A3 x3.length c3,.bool s4,up A4 x4.length c4,.bool s5,up A5 x5.length c5,.string (aN bs),up AL n cL]] w (Gv w (Is (we))):=by
 obtain⟨vs,hL,uf⟩:=hl.ln;have mw:=(a2M (s0:=s0) (s1:=s1) (s2:=s2) (s3:=s3) (s4:=s4) (s5:=s5) h0 h1 h2 h3 h4 h5).app J uf;obtain⟨ζ,hζ,hζ0,hζ1,hζ2,hζ3,hζ4,hζ5,hζL⟩:=NM s0 s1 s2 s3 s4 s5 σ;obtain⟨Ω,hΩ,hΩ0,hΩ1,hΩ2,hΩ3,hΩ4,hΩ5,hΩL⟩:=NM x0 x1 x2 x3 x4 x5 ω;rw [hζ,hΩ] at mw;have hK:∀j,j<6+n→(Ω j).length≤1048576:=a0t (P:=fun l:List Nat=>l.length≤1048576) hΩ0 hΩ1 hΩ2 hΩ3 hΩ4 hΩ5 hΩL l0 l1 l2 l3 l4 l5 (a0f hsum);obtain⟨y1,y2,y3,y4⟩:=hl.op8l hn hsum;have qo:Op8 w k (sg s0 (nv x0)) (sg s1 (nv x1)) (sg s2 (nv x2)) (sg s3 (nv x3)) (sg s4 (nv x4)) (sg s5 (nv x5)) bs (lM n σ ω) n (.agg #[no k,.bool s0,up A0 x0.length c0,.bool s1,up A1 x1.length c1,.bool s2,up A2 x2.length c2,.bool s3,up A3 x3.length c3,.bool s4,up A4 x4.length c4,.bool s5,up A5 x5.length c5,.string (aN bs),up AL n cL]):=⟨_,_,_,_,_,_,_,_,_,_,_,_,_,_,_,_,_,_,_,_,_,_,_,_,_,_,_,rfl,⟨x0,h0,rfl⟩,l0,⟨x1,h1,rfl⟩,l1,⟨x2,h2,rfl⟩,l2,⟨x3,h3,rfl⟩,l3,⟨x4,h4,rfl⟩,l4,⟨x5,h5,rfl⟩,l5,y1,y2,y3,y4⟩;obtain⟨S1,su⟩:∃S,mX k (sg s0 (nv x0)) (sg s1 (nv x1)) (sg s2 (nv x2)) (sg s3 (nv x3)) (sg s4 (nv x4)) (sg s5 (nv x5)) bs (lM n σ ω)=S:=⟨_,rfl⟩;have kg:mX k (sg (ζ 0) (nv (Ω 0))) (sg (ζ 1) (nv (Ω 1))) (sg (ζ 2) (nv (Ω 2))) (sg (ζ 3) (nv (Ω 3))) (sg (ζ 4) (nv (Ω 4))) (sg (ζ 5) (nv (Ω 5))) bs (lM n (fun j=>ζ (6+j)) fun j=>Ω (6+j))=S1:=by rw [hζ0,hζ1,hζ2,hζ3,hζ4,hζ5,hΩ0,hΩ1,hΩ2,hΩ3,hΩ4,hΩ5,RE (fun i _=>hζL i) (fun i _=>hΩL i)];exact su
 have kw:(kI n fun j=>Ω (6+j)).sum≤1048576:=by rw [MG (fun i _=>congrArg List.length (hΩL i))];exact hsum
 refine bU Tryz.func3 184 J (sr (nQ J J (vs:= [no k,.bool s0,up A0 x0.length c0,.bool s1,up A1 x1.length c1,.bool s2,up A2 x2.length c2,.bool s3,up A3 x3.length c3,.bool s4,up A4 x4.length c4,.bool s5,up A5 x5.length c5,.string (aN bs),up AL n cL]) J fun g1 _ nb=>?_));have gw_g1:w.heap.size≤g1:=by rw [←nb.at_];exact aU _
 have jh:=nb.bk;have vm:w.heap.size≤g1:=by rw [←nb.at_];exact (Ext.refl w).size
 have e3:=nb.ext;clear nb;have au:=(Ext.refl w).trans e3;refine aE 1 J (aD (sr (bI [] au (a1l _) J ?_)));rintro _ _ rfl e7 aq;refine aA (wk) J (aG (aT J (bB (aL (sr (lo lP (jh.ext e7) [no k,.bool s0,up A0 x0.length c0,.bool s1,up A1 x1.length c1,.bool s2,up A2 x2.length c2,.bool s3,up A3 x3.length c3,.bool s4,up A4 x4.length c4,.bool s5,up A5 x5.length c5,.string (aN bs),up AL n cL] J J J (bI [.agg #[no k,.bool s0,up A0 x0.length c0,.bool s1,up A1 x1.length c1,.bool s2,up A2 x2.length c2,.bool s3,up A3 x3.length c3,.bool s4,up A4 x4.length c4,.bool s5,up A5 x5.length c5,.string (aN bs),up AL n cL]] aq (OR (qo.ext aq)) J fun oz _ uq mq cv=>(bI [oz] cv (OC cv.size (uq.ext bN) hbs hlen su) J fun _ rz uz mj gb=>?_))))))));obtain⟨f,rfl,rc⟩:=AnsR8.cells uz;have fq:=rc.toV;refine iL J (z:= .agg #[F0,S0,F0,S0,F0,S0,S0,I0,.string ⟨#[]⟩,I0]) (vs:= [F0,S0,F0,S0,F0,S0,S0,I0,.string ⟨#[]⟩,I0]) ye J fun fk _ nb=>?_;have gw_g16:rz.heap.size≤fk:=by rw [←nb.at_];exact aU _
 have sy:=nb.bk;have tn:w.heap.size≤fk:=by rw [←nb.at_];exact gb.size
 have vq:g1<fk:=by rw [←nb.at_];exact (jh.ext (e7.t (mq.t mj))).lt
 have W:=nb.ext;clear nb;have go:=gb.trans W;refine so iC sy [.bool f.s,up f.A f.n f.c,.bool f.s',up f.A' f.n' f.c',.bool f.s2,up f.A2 f.n2 f.c2,up f.B f.m f.d,no f.N,.string (aN f.S),no f.E] go tn J J J J fun ut em Z dx=>(aG (sr (lo lP ((jh.ext (e7.t (mq.t (mj.t W)))).vN Z) [no k,.bool s0,up A0 x0.length c0,.bool s1,up A1 x1.length c1,.bool s2,up A2 x2.length c2,.bool s3,up A3 x3.length c3,.bool s4,up A4 x4.length c4,.bool s5,up A5 x5.length c5,.string (aN bs),up AL n cL] J J J (bI [.agg #[no k,.bool s0,up A0 x0.length c0,.bool s1,up A1 x1.length c1,.bool s2,up A2 x2.length c2,.bool s3,up A3 x3.length c3,.bool s4,up A4 x4.length c4,.bool s5,up A5 x5.length c5,.string (aN bs),up AL n cL]] dx (a1q (hL.ext dx) (mw.ext dx) hK hn) J ?_))));rintro _ sx ⟨AX,cX,AW,cW,γ,us,ws,e,he,rfl,hX,hC,hW,hD,hF⟩ H fm;obtain⟨lq,jj⟩:∃q,ut.heap.size=q:=⟨_,rfl⟩;rw [jj] at hX hW hF;obtain⟨hi,ja⟩:∃q,sx.heap.size=q:=⟨_,rfl⟩;have bw:w.heap.size≤lq:=by rw [←jj];exact dx.size
 have ug:rz.heap.size≤lq:=by rw [←jj];exact (Z.ext W (a8 (Ext.refl _).size gw_g16)).size
 have dy:lq≤hi:=by rw [←jj,←ja];exact H.size
 have gf:∀j,j<6+n→lq≤γ j∧γ j<hi:=fun j hj=>⟨(hF.1 j hj).1,by rw [←ja];exact hF.lt hj⟩;have qw:∀p,AX=some p→lq≤p.block∧p.block<hi:=fun p hp=>by rw [←ja];exact hX.block p hp
 refine mv 1 J (aA (.agg #[no k,.bool (e 0).s,.slice (e 0).A (e 0).n (e 0).c,.bool (e 1).s,.slice (e 1).A (e 1).n (e 1).c,.bool (e 2).s,.slice (e 2).A (e 2).n (e 2).c,.bool (e 3).s,.slice (e 3).A (e 3).n (e 3).c,.bool (e 4).s,.slice (e 4).A (e 4).n (e 4).c,.bool (e 5).s,.slice (e 5).A (e 5).n (e 5).c,.string (aN bs),up AX n cX]) J (aA (up AW (6+n) cW) J (iL J (z:= .agg #[I0,F0,S0,F0,S0,F0,S0,F0,S0,F0,S0,F0,S0,.string ⟨#[]⟩,S0]) (vs:= [I0,F0,S0,F0,S0,F0,S0,F0,S0,F0,S0,F0,S0,.string ⟨#[]⟩,S0]) ye J fun cz _ nb=>?_)));have gw_g30:sx.heap.size≤cz:=by rw [←nb.at_];exact aU _
 have qe:=nb.bk;have pg:w.heap.size≤cz:=by rw [←nb.at_];exact fm.size
 have vw:fk<cz:=by rw [←nb.at_];exact (em.ext H).lt
 have I:=nb.ext;clear nb;have je:=fm.trans I;refine so lP qe [no k,.bool (e 0).s,.slice (e 0).A (e 0).n (e 0).c,.bool (e 1).s,.slice (e 1).A (e 1).n (e 1).c,.bool (e 2).s,.slice (e 2).A (e 2).n (e 2).c,.bool (e 3).s,.slice (e 3).A (e 3).n (e 3).c,.bool (e 4).s,.slice (e 4).A (e 4).n (e 4).c,.bool (e 5).s,.slice (e 5).A (e 5).n (e 5).c,.string (aN bs),up AX n cX] je pg J J J J fun ub dg V gy=>(aE 1 J (sr (lo lP dg [no k,.bool (e 0).s,.slice (e 0).A (e 0).n (e 0).c,.bool (e 1).s,.slice (e 1).A (e 1).n (e 1).c,.bool (e 2).s,.slice (e 2).A (e 2).n (e 2).c,.bool (e 3).s,.slice (e 3).A (e 3).n (e 3).c,.bool (e 4).s,.slice (e 4).A (e 4).n (e 4).c,.bool (e 5).s,.slice (e 5).A (e 5).n (e 5).c,.string (aN bs),up AX n cX] J J J ?_)));have kq:=(V.ext I (a8 (Ext.refl _).size gw_g30));refine bI [.agg #[no k,.bool (e 0).s,.slice (e 0).A (e 0).n (e 0).c,.bool (e 1).s,.slice (e 1).A (e 1).n (e 1).c,.bool (e 2).s,.slice (e 2).A (e 2).n (e 2).c,.bool (e 3).s,.slice (e 3).A (e 3).n (e 3).c,.bool (e 4).s,.slice (e 4).A (e 4).n (e 4).c,.bool (e 5).s,.slice (e 5).A (e 5).n (e 5).c,.string (aN bs),up AX n cX]] gy (FN (aU _) (AQ he (hX.ext kq) hC (hF.ext kq) (fun _=>rfl) hK kw hn) hbs hlen (hS.ext gy) kg) J fun _ pm ua G dw=>?_;obtain⟨rp,rfl,bu⟩:=AnsA8.i ua;obtain⟨bbp,nh⟩:∃q,ub.heap.size=q:=⟨_,rfl⟩;obtain⟨eep,ll⟩:∃q,pm.heap.size=q:=⟨_,rfl⟩;rw [nh,ll] at bu;have el:bbp≤eep:=by rw [←nh,←ll];exact G.size
 have rn:hi≤bbp:=by rw [←ja,←nh];exact (V.ext I (a8 (Ext.refl _).size gw_g30)).size
 refine iL J (z:= .agg #[F0,S0,F0,S0,F0,S0,S0,I0,.string ⟨#[]⟩,I0]) (vs:= [F0,S0,F0,S0,F0,S0,S0,I0,.string ⟨#[]⟩,I0]) ye J fun fh _ nb=>?_;have gw_g45:pm.heap.size≤fh:=by rw [←nb.at_];exact aU _
 have tf:=nb.bk;have tg:w.heap.size≤fh:=by rw [←nb.at_];exact dw.size
 have vt:cz<fh:=by rw [←nb.at_];exact (dg.ext G).lt
 have ae:=nb.ext;clear nb;have dh:=dw.trans ae;refine so iC tf [.bool rp.s,up rp.A rp.n rp.c,.bool rp.s',up rp.A' rp.n' rp.c',.bool rp.s2,up rp.A2 rp.n2 rp.c2,up rp.B rp.m rp.d,no rp.N,.string (aN rp.S),no rp.E] dh tg J J J J fun tv fv ai dt=>(aG (sr (lo lP ((dg.ext (G.t ae)).vN ai) [no k,.bool (e 0).s,.slice (e 0).A (e 0).n (e 0).c,.bool (e 1).s,.slice (e 1).A (e 1).n (e 1).c,.bool (e 2).s,.slice (e 2).A (e 2).n (e 2).c,.bool (e 3).s,.slice (e 3).A (e 3).n (e 3).c,.bool (e 4).s,.slice (e 4).A (e 4).n (e 4).c,.bool (e 5).s,.slice (e 5).A (e 5).n (e 5).c,.string (aN bs),up AX n cX] J J J ?_)));have ki:=(ai.ext (((V.ext I (a8 (Ext.refl _).size gw_g30)).trans G).trans ae) (a8 ((V.ext I (a8 (Ext.refl _).size gw_g30)).trans G).size gw_g45));refine bI [.agg #[no k,.bool (e 0).s,.slice (e 0).A (e 0).n (e 0).c,.bool (e 1).s,.slice (e 1).A (e 1).n (e 1).c,.bool (e 2).s,.slice (e 2).A (e 2).n (e 2).c,.bool (e 3).s,.slice (e 3).A (e 3).n (e 3).c,.bool (e 4).s,.slice (e 4).A (e 4).n (e 4).c,.bool (e 5).s,.slice (e 5).A (e 5).n (e 5).c,.string (aN bs),up AX n cX]] dt (FN (aU _) (AQ he (hX.ext ki) hC (hF.ext ki) (fun _=>rfl) hK kw hn) hbs hlen (hS.ext dt) kg) J fun _ rs uu ab ei=>?_;obtain⟨rq,rfl,ch⟩:=AnsA8.i uu;obtain⟨bbq,my⟩:∃q,tv.heap.size=q:=⟨_,rfl⟩;obtain⟨eeq,mp⟩:∃q,rs.heap.size=q:=⟨_,rfl⟩;rw [my,mp] at ch;have ey:bbq≤eeq:=by rw [←my,←mp];exact ab.size
 have jr:eep≤bbq:=by rw [←ll,←my];exact (ai.ext ae (a8 (Ext.refl _).size gw_g45)).size
 refine iL J (z:= .agg #[F0,S0,F0,S0,F0,S0,S0,I0,.string ⟨#[]⟩,I0]) (vs:= [F0,S0,F0,S0,F0,S0,S0,I0,.string ⟨#[]⟩,I0]) ye J fun fd _ nb=>?_;have gw_g60:rs.heap.size≤fd:=by rw [←nb.at_];exact aU _
 have ro:=nb.bk;have qg:w.heap.size≤fd:=by rw [←nb.at_];exact ei.size
 have vz:fh<fd:=by rw [←nb.at_];exact (fv.ext ab).lt
 have ao:=nb.ext;clear nb;refine so iC ro [.bool rq.s,up rq.A rq.n rq.c,.bool rq.s',up rq.A' rq.n' rq.c',.bool rq.s2,up rq.A2 rq.n2 rq.c2,up rq.B rq.m rq.d,no rq.N,.string (aN rq.S),no rq.E] (ei.trans ao) qg J J J J fun _ kk av ko=>(aG (aD (sr (lo iC ((fv.ext (ab.t ao)).vN av) [.bool rp.s,up rp.A rp.n rp.c,.bool rp.s',up rp.A' rp.n' rp.c',.bool rp.s2,up rp.A2 rp.n2 rp.c2,up rp.B rp.m rp.d,no rp.N,.string (aN rp.S),no rp.E] J J J (lo iC ((((((em.ext (H.t I)).vN V).ext (G.t ae)).vN ai).ext (ab.t ao)).vN av) [.bool f.s,up f.A f.n f.c,.bool f.s',up f.A' f.n' f.c',.bool f.s2,up f.A2 f.n2 f.c2,up f.B f.m f.d,no f.N,.string (aN f.S),no f.E] J J J ?_)))));have jt:=(av.ext (((ai.ext ae (a8 (Ext.refl _).size gw_g45)).trans ab).trans ao) (a8 ((ai.ext ae (a8 (Ext.refl _).size gw_g45)).trans ab).size gw_g60));refine aX ko (yA (a8 el (bu.ext jt).be) ko.size (bu.ext jt).toR (fq.ext (av.ext (((ai.ext (((V.ext (((Z.ext W (a8 (Ext.refl _).size gw_g16)).trans H).trans I) (a8 ((Z.ext W (a8 (Ext.refl _).size gw_g16)).trans H).size gw_g30)).trans G).trans ae) (a8 ((V.ext (((Z.ext W (a8 (Ext.refl _).size gw_g16)).trans H).trans I) (a8 ((Z.ext W (a8 (Ext.refl _).size gw_g16)).trans H).size gw_g30)).trans G).size gw_g45)).trans ab).trans ao) (a8 ((ai.ext (((V.ext (((Z.ext W (a8 (Ext.refl _).size gw_g16)).trans H).trans I) (a8 ((Z.ext W (a8 (Ext.refl _).size gw_g16)).trans H).size gw_g30)).trans G).trans ae) (a8 ((V.ext (((Z.ext W (a8 (Ext.refl _).size gw_g16)).trans H).trans I) (a8 ((Z.ext W (a8 (Ext.refl _).size gw_g16)).trans H).size gw_g30)).trans G).size gw_g45)).trans ab).size gw_g60))).r) J ?_;rintro _ _ rfl iA jv;refine aA (wk) J (mv 1 J (lo iC (kk.ext iA) [.bool rq.s,up rq.A rq.n rq.c,.bool rq.s',up rq.A' rq.n' rq.c',.bool rq.s2,up rq.A2 rq.n2 rq.c2,up rq.B rq.m rq.d,no rq.N,.string (aN rq.S),no rq.E] J J J (lo iC (((((((em.ext (H.t I)).vN V).ext (G.t ae)).vN ai).ext (ab.t ao)).vN av).ext iA) [.bool f.s,up f.A f.n f.c,.bool f.s',up f.A' f.n' f.c',.bool f.s2,up f.A2 f.n2 f.c2,up f.B f.m f.d,no f.N,.string (aN f.S),no f.E] J J J ?_)));have kd:=((av.ext ao (a8 (Ext.refl _).size gw_g60)).trans iA);refine aX jv (yA (a8 ey (ch.ext kd).be) jv.size (ch.ext kd).toR (fq.ext ((av.ext (((ai.ext (((V.ext (((Z.ext W (a8 (Ext.refl _).size gw_g16)).trans H).trans I) (a8 ((Z.ext W (a8 (Ext.refl _).size gw_g16)).trans H).size gw_g30)).trans G).trans ae) (a8 ((V.ext (((Z.ext W (a8 (Ext.refl _).size gw_g16)).trans H).trans I) (a8 ((Z.ext W (a8 (Ext.refl _).size gw_g16)).trans H).size gw_g30)).trans G).size gw_g45)).trans ab).trans ao) (a8 ((ai.ext (((V.ext (((Z.ext W (a8 (Ext.refl _).size gw_g16)).trans H).trans I) (a8 ((Z.ext W (a8 (Ext.refl _).size gw_g16)).trans H).size gw_g30)).trans G).trans ae) (a8 ((V.ext (((Z.ext W (a8 (Ext.refl _).size gw_g16)).trans H).trans I) (a8 ((Z.ext W (a8 (Ext.refl _).size gw_g16)).trans H).size gw_g30)).trans G).size gw_g45)).trans ab).size gw_g60)).trans iA)).r) J ?_;rintro _ _ rfl bh ka;refine aA (wk) J (aA (wk) J (aG (aT J (bB (aL (sr (lo lP (((((((((jh.ext (e7.t (mq.t (mj.t W)))).vN Z).ext (H.t I)).vN V).ext (G.t ae)).vN ai).ext (ab.t ao)).vN av).ext (iA.t bh)) [no k,.bool s0,up A0 x0.length c0,.bool s1,up A1 x1.length c1,.bool s2,up A2 x2.length c2,.bool s3,up A3 x3.length c3,.bool s4,up A4 x4.length c4,.bool s5,up A5 x5.length c5,.string (aN bs),up AL n cL] J J J (bI [.agg #[no k,.bool s0,up A0 x0.length c0,.bool s1,up A1 x1.length c1,.bool s2,up A2 x2.length c2,.bool s3,up A3 x3.length c3,.bool s4,up A4 x4.length c4,.bool s5,up A5 x5.length c5,.string (aN bs),up AL n cL]] ka (FM (hL.ext ka) hn) J ?_))))))));rintro _ _ ⟨fa,ej,rfl,qh⟩ br qr;refine aE 1 J (sr (lo lP (((((dg.ext (G.t ae)).vN ai).ext (ab.t ao)).vN av).ext (iA.t (bh.t br))) [no k,.bool (e 0).s,.slice (e 0).A (e 0).n (e 0).c,.bool (e 1).s,.slice (e 1).A (e 1).n (e 1).c,.bool (e 2).s,.slice (e 2).A (e 2).n (e 2).c,.bool (e 3).s,.slice (e 3).A (e 3).n (e 3).c,.bool (e 4).s,.slice (e 4).A (e 4).n (e 4).c,.bool (e 5).s,.slice (e 5).A (e 5).n (e 5).c,.string (aN bs),up AX n cX] J J J ?_));refine bI [.agg #[no k,.bool (e 0).s,.slice (e 0).A (e 0).n (e 0).c,.bool (e 1).s,.slice (e 1).A (e 1).n (e 1).c,.bool (e 2).s,.slice (e 2).A (e 2).n (e 2).c,.bool (e 3).s,.slice (e 3).A (e 3).n (e 3).c,.bool (e 4).s,.slice (e 4).A (e 4).n (e 4).c,.bool (e 5).s,.slice (e 5).A (e 5).n (e 5).c,.string (aN bs),up AX n cX]] qr (FM (YE (hX.ext ((((av.ext (((ai.ext (((V.ext I (a8 (Ext.refl _).size gw_g30)).trans G).trans ae) (a8 ((V.ext I (a8 (Ext.refl _).size gw_g30)).trans G).size gw_g45)).trans ab).trans ao) (a8 ((ai.ext (((V.ext I (a8 (Ext.refl _).size gw_g30)).trans G).trans ae) (a8 ((V.ext I (a8 (Ext.refl _).size gw_g30)).trans G).size gw_g45)).trans ab).size gw_g60)).trans iA).trans bh).trans br)) (PL hC (mD hX))) hn) J ?_;rintro _ ks ⟨bj,bo,rfl,re⟩ ct sm;refine aE 1 J (aD (aV 1 J (aA (no ((6+n):Nat)) J (mv 1 J (aA (no ((6+n):Nat)) J (aH J (lW (6+n) (6+n) J) (mv 2 J (aA (no ((6+n):Nat)) J (mv 1 J (aA (no ((6+n):Nat)) J (aH J (lW (6+n) (6+n) J) ?_)))))))))));refine aA (wk) J (aG (aT J (bB (aL (aD (sr (aE 1 J (bO ?_))))))));have io:=(((((av.ext (((ai.ext (((V.ext I (a8 (Ext.refl _).size gw_g30)).trans G).trans ae) (a8 ((V.ext I (a8 (Ext.refl _).size gw_g30)).trans G).size gw_g45)).trans ab).trans ao) (a8 ((ai.ext (((V.ext I (a8 (Ext.refl _).size gw_g30)).trans G).trans ae) (a8 ((V.ext I (a8 (Ext.refl _).size gw_g30)).trans G).size gw_g45)).trans ab).size gw_g60)).trans iA).trans bh).trans br).trans ct);have hX:=(hX.ext io);have hW:=(hW.ext io);have hF:=(hF.ext io);have hN:=re;have jo:=(fq.ext (((((av.ext (((ai.ext (((V.ext (((Z.ext W (a8 (Ext.refl _).size gw_g16)).trans H).trans I) (a8 ((Z.ext W (a8 (Ext.refl _).size gw_g16)).trans H).size gw_g30)).trans G).trans ae) (a8 ((V.ext (((Z.ext W (a8 (Ext.refl _).size gw_g16)).trans H).trans I) (a8 ((Z.ext W (a8 (Ext.refl _).size gw_g16)).trans H).size gw_g30)).trans G).size gw_g45)).trans ab).trans ao) (a8 ((ai.ext (((V.ext (((Z.ext W (a8 (Ext.refl _).size gw_g16)).trans H).trans I) (a8 ((Z.ext W (a8 (Ext.refl _).size gw_g16)).trans H).size gw_g30)).trans G).trans ae) (a8 ((V.ext (((Z.ext W (a8 (Ext.refl _).size gw_g16)).trans H).trans I) (a8 ((Z.ext W (a8 (Ext.refl _).size gw_g16)).trans H).size gw_g30)).trans G).size gw_g45)).trans ab).size gw_g60)).trans iA).trans bh).trans br).trans ct));have bu:=(bu.ext (((((av.ext (((ai.ext ae (a8 (Ext.refl _).size gw_g45)).trans ab).trans ao) (a8 ((ai.ext ae (a8 (Ext.refl _).size gw_g45)).trans ab).size gw_g60)).trans iA).trans bh).trans br).trans ct));have ch:=(ch.ext (((((av.ext ao (a8 (Ext.refl _).size gw_g60)).trans iA).trans bh).trans br).trans ct));have iy:=(((((((em.ext (H.t I)).vN V).ext (G.t ae)).vN ai).ext (ab.t ao)).vN av).ext (iA.t (bh.t (br.t ct))));have ge:=(((((dg.ext (G.t ae)).vN ai).ext (ab.t ao)).vN av).ext (iA.t (bh.t (br.t ct))));have iw:=(((fv.ext (ab.t ao)).vN av).ext (iA.t (bh.t (br.t ct))));have il:=(kk.ext (iA.t (bh.t (br.t ct))));have ft:=a2C he hC;have kx:eeq≤ks.heap.size:=by rw [←mp];exact (((((av.ext ao (a8 (Ext.refl _).size gw_g60)).trans iA).trans bh).trans br).trans ct).size
 have iz:hi≤bbp:=rn;have jl:hi≤bbq:=a8 (a8 iz el) jr;refine dC (T:=a6×Nat) (fun⟨wr,i⟩=> [(3,i5 fk 0),(4,i5 cz 0),(6,i5 fh 0),(7,i5 fd 0),(5,up AW (6+n) cW),(8,up fa (6+n) ej),(9,up bj (6+n) bo),(10,no i)]) (fun⟨wr,i⟩=>wr) (fun⟨wr,i⟩=>(Ext w wr)∧(i≤6+n)∧(UpT lq hi ks wr)∧(Fam wr lq (6+n) γ (tU i Ω))) (fun⟨wr,i⟩=>6+n-i) (⟨ks,0⟩:a6×Nat) ⟨sm,(bX _),(UpT.of_ext _ _ bN),(by rw [TS];exact hF)⟩ J (aP J) ?_;rintro⟨wr,i⟩ ⟨au,fc,bd,nj⟩;refine ?_;have qi:=bd.ownT hN yd;have ui:=bd.ownT hW yd;refine aD (aD ?_);by_cases ak:i<6+n
 ·refine aK 2 J (aA (no ((6+n):Nat)) J (aH J (dV i (6+n) J) (aG (bC J (bB (aL (aD (bO (aD (aD ?_))))))))));obtain⟨qv,rj,sw⟩:=rN qi (i:=i) i9 (ft i i9).1 (ft i i9).2;obtain⟨_,kz,jc⟩:=nj.1 i ak;rw [J2] at kz jc;have qt:=E4 jc J kz (a8 (hK i ak) yd);obtain⟨pt,qu,qy⟩:=YG ui (i:=i) i9 (hD i i9);have si:=W9 jc J kz (a8 (hK i ak) yd);obtain⟨fj,kj,jk,ix,qf,mb,_,kb⟩:=HC ((mw.ext au).zw (bd.ownT (qh.ext ct) yd)) (i:=i) i9;refine dW cM 23 [] [Is (up bj (6+n) bo),Is (no i),Is (.pointer (some qv)),Is (.agg #[.bool (ζ i),up (some ⟨γ i,0,none⟩) ((Ω i).length) ((Ω i).length+80)]),Is (up fa (6+n) ej),Is (no i),Is (.pointer (some fj)),Is (.agg #[.bool (ζ i),up jk ((Ω i).length) ix]),Is (we),Is (wk),Is (wk),Is (up AW (6+n) cW),Is (no i),Is (.pointer (some pt)),Is (up (some ⟨γ i,0,none⟩) ((Ω i).length+80) ((Ω i).length+80)),Is (up fa (6+n) ej),Is (no i),Is (.pointer (some fj)),Is (.pointer (some (fj.add 1))),Is (up jk ((Ω i).length) ix),Is (we),Is (wk),Is (wk)] [[],[],[0,1],[2],[],[],[4,5],[6],[3,7],[8],[9],[10],[10],[10,11,12],[10,13],[10],[10],[10,15,16],[10,17],[10,18],[10,14,19],[10,20],[10,21]] rfl (bY J ?_ ?_ ?_ ?_ (bY J ?_ ?_ ?_ ?_ (bY J ?_ ?_ ?_ ?_ (bY J ?_ ?_ ?_ ?_ (bY J ?_ ?_ ?_ ?_ (cG J ?_ (cG J ?_ (cG J ?_ dN)))))))) ?_
  ·exact fun _ _=>aC (mv 1 J (aI J))
  ·exact fun _ _=>aC (mv 1 J (aI J))
  ·exact fun _ _=>aY J (aC (cA fI aB.size i qv rj J (aI J)))
  ·exact fun _ pk=>aO J (aC (bG (sw _ pk _ _ aB) J (aI J)))
  ·exact fun _ _=>aC (mv 1 J (aI J))
  ·exact fun _ _=>aC (mv 1 J (aI J))
  ·exact fun _ _=>aY J (aC (cA fI aB.size i fj kj J (aI J)))
  ·exact fun _ ss=>aO J (aC (bG (qf _ ss _ _ aB) J (aI J)))
  ·intro _ ir;have aq:=au.trans ir;refine aY J (aC (bI [.agg #[.bool (ζ i),up (some ⟨γ i,0,none⟩) ((Ω i).length) ((Ω i).length+80)],.agg #[.bool (ζ i),up jk ((Ω i).length) ix]] aq (a1x (xs:=(Ω i)) (qt.ext ir) (hK i ak) (kb.ext ir)) J ?_));rintro _ _ rfl qq cv;exact bQ J qq rfl
  ·exact fun _ _=>aO J (aC (aA (wk) J (aI J)))
  ·exact fun _ _=>aO J (aC (mv 1 J (aI J)))
  ·exact fun _ _=>aO J (aC (mv 1 J (aI J)))
  ·exact fun _ _=>aO J (aC (mv 1 J (aI J)))
  ·exact fun _ _=>aY J (aO J (aC (cA mU oN i pt qu J (aI J))))
  ·exact fun _ pr=>aY J (aC (bG (d5 sH (pr.cell qy)) J (aI J)))
  ·exact fun _ _=>aO J (aC (mv 1 J (aI J)))
  ·exact fun _ _=>aO J (aC (mv 1 J (aI J)))
  ·exact fun _ _=>aY J (aO J (aC (cA fI aB.size i fj kj J (aI J))))
  ·exact fun _ _=>aY J (aC (aA (.pointer (some (fj.add 1))) J (aI J)))
  ·exact fun _ sk=>aY J (aC (bG (d5 ye (mb _ sk)) J (aI J)))
  ·intro _ gx;have aq:=au.trans gx;refine aY J (aO J (aC (bI [up (some ⟨γ i,0,none⟩) ((Ω i).length+80) ((Ω i).length+80),up jk ((Ω i).length) ix] aq (a1B (xs:=(Ω i)) (si.ext gx) (kb.ext gx) (a8 (hK i ak) yd)) J ?_)));rintro _ _ rfl px cv;exact bQ J px rfl
  ·exact fun _ _=>aY J (aC (aA (wk) J (aI J)))
  ·exact fun _ _=>aY J (aC (aA (wk) J (aI J)))
  intro kn dl;have aq:=au.trans dl;refine d6 J (d6 J (d6 J (aY J ?_)));refine d6 J (d6 J (aO J (aC (cF (dM (aL (aT J ?_)))))));refine bB (aL (sr (aE 1 J (bO ?_))));obtain⟨g,hg⟩:∃g,γ i=g:=⟨_,rfl⟩;have dr:=jc.ext dl;rw [hg] at dr;have qd:=(ft i i9).2;rw [hg] at qd;have va:w.heap.size≤g:=by rw [←hg];exact a8 bw (gf i ak).1
  have vu:=hK i ak;refine dC (T:=a6×Nat) (fun⟨wq,j⟩=> [(3,i5 fk 0),(4,i5 cz 0),(6,i5 fh 0),(7,i5 fd 0),(5,up AW (6+n) cW),(8,up fa (6+n) ej),(9,up bj (6+n) bo),(10,no i),(11,no j)]) (fun⟨wq,j⟩=>wq) (fun⟨wq,j⟩=>(Ext w wq)∧(j≤(Ω i).length)∧(Bk wq g 43 ((gF j (Ω i)++j8 (Ω i).length).map bF))∧(Upd g kn wq)) (fun⟨wq,j⟩=>(Ω i).length-j) (⟨kn,0⟩:a6×Nat) ⟨aq,(bX _),(by rw [TD];exact dr),(Upd.refl _ _)⟩ J (aP J) ?_;rintro⟨wq,j⟩ ⟨au,hj,hb,hu⟩;refine ?_;have ti:=(qi.ext dl).updT dr yd hu;refine aD (aD ?_);obtain⟨ar,cm⟩:=LN ti (i:=i) i9;have de:=LM ti cm i9 qd;by_cases uj:j<(Ω i).length
  ·refine aK 3 J (cA fI aB.size i ar cm J (aA (.pointer (some (ar.add 1))) J (bG (d5 ye de) J (aA (no ((Ω i).length:Nat)) J (aH J (dV j ((Ω i).length) J) (aG (bC J (bB (aL (aD (bO ?_)))))))))));refine dW cM 20 [] [Is (up bj (6+n) bo),Is (no i),Is (.pointer (some ar)),Is (.pointer (some (ar.add 1))),Is (up (some ⟨g,0,none⟩) ((Ω i).length) ((Ω i).length+80)),Is (no j),Is (up bj (6+n) bo),Is (no i),Is (.pointer (some ar)),Is (.pointer (some (ar.add 1))),Is (up (some ⟨g,0,none⟩) ((Ω i).length) ((Ω i).length+80)),Is (no j),Is (.pointer (some (⟨g,j,none⟩))),Is (t9 ((gF j (Ω i)++j8 (Ω i).length).getD j 0:Nat)),Is (t9 (((((gF j (Ω i)++j8 (Ω i).length).getD j 0)*3)%18446744073709551616:Nat):Int)),Is (no j),Is (t9 j),Is (t9 (((((((gF j (Ω i)++j8 (Ω i).length).getD j 0)*3)%18446744073709551616)+j)%18446744073709551616:Nat):Int)),Is (t9 (((((((((gF j (Ω i)++j8 (Ω i).length).getD j 0)*3)%18446744073709551616)+j)%18446744073709551616)+1)%18446744073709551616:Nat):Int)),Is (.pointer (some (⟨g,j,none⟩)))] [[],[],[0,1],[2],[3],[],[],[],[6,7],[8],[9],[],[10,11],[12],[13],[],[15],[14,16],[17],[4,5]] rfl (bY J ?_ ?_ ?_ ?_ (bY J ?_ ?_ ?_ ?_ (bY J ?_ ?_ ?_ ?_ (bY J ?_ ?_ ?_ ?_ (bY J ?_ ?_ ?_ ?_ dN))))) ?_
   ·exact fun _ _=>aC (mv 1 J (aI J))
   ·exact fun _ _=>aC (mv 1 J (aI J))
   ·exact fun _ _=>aY J (aC (cA fI aB.size i ar cm J (aI J)))
   ·exact fun _ _=>aO J (aC (aA (.pointer (some (ar.add 1))) J (aI J)))
   ·exact fun _ qm=>aO J (aC (bG (d5 ye (qm.cell de)) J (aI J)))
   ·exact fun _ _=>aC (mv 1 J (aI J))
   ·exact fun _ _=>aC (mv 1 J (aI J))
   ·exact fun _ _=>aC (mv 1 J (aI J))
   ·exact fun _ _=>aY J (aC (cA fI aB.size i ar cm J (aI J)))
   ·exact fun _ _=>aO J (aC (aA (.pointer (some (ar.add 1))) J (aI J)))
   ·exact fun _ ph=>aO J (aC (bG (d5 ye (ph.cell de)) J (aI J)))
   ·exact fun _ _=>aC (mv 1 J (aI J))
   ·exact fun _ _=>aY J (aC (cA cH bZ j ⟨g,j,none⟩ (eG _ _) J (aI J)))
   ·exact fun _ pz=>aO J (aC (bG (jF dK (hb.ext pz) (by rw [(show (gF j (Ω i)++j8 (Ω i).length).length=(Ω i).length+80 by rw [f8,wZ hj,vH])];omega)) J (aI J)))
   ·exact fun _ _=>aO J (aC (bD J (a3D (a:=(gF j (Ω i)++j8 (Ω i).length).getD j 0) (b:=3) J J) (aI J)))
   ·exact fun _ _=>aC (mv 1 J (aI J))
   ·exact fun _ _=>aO J (aC (mL j J (aI J)))
   ·exact fun _ _=>aY J (aC (bD J (QB (a:=(((gF j (Ω i)++j8 (Ω i).length).getD j 0)*3)%18446744073709551616) (b:=j) J J) (aI J)))
   ·exact fun _ _=>aO J (aC (bD J (QB (a:=(((((gF j (Ω i)++j8 (Ω i).length).getD j 0)*3)%18446744073709551616)+j)%18446744073709551616) (b:=1) J J) (aI J)))
   ·exact fun _ _=>aY J (aC (cA cH bZ j ⟨g,j,none⟩ (eG _ _) J (aI J)))
   intro _ iu;have aq:=au.trans iu;refine d6 J (d6 J (d6 J (aY J ?_)));refine d6 J (aY J (aC ?_));refine i0 J J J bZ J (hb.ext iu) (iQ (by rw [(show (gF j (Ω i)++j8 (Ω i).length).length=(Ω i).length+80 by rw [f8,wZ hj,vH])];omega)) J (((gF j (Ω i)++j8 (Ω i).length).set j ((((((((gF j (Ω i)++j8 (Ω i).length).getD j 0)*3)%18446744073709551616)+j)%18446744073709551616)+1)%18446744073709551616)).map bF) (eM _ _ _) fun ru ny jy _=>?_;have cv:=jy.ext aq va;refine cF (dM (bT (aL (aK 1 J (bD J (cK j 1 J) (bS 1 J (cP (⟨ru,j+1⟩:a6×Nat) ⟨cv,i9,(by have h:=ny;rwa [TB uj] at h),(hu.trans ((Upd.of_ext iu).trans jy))⟩ (show (Ω i).length-(j+1)<(Ω i).length-j by omega) J (aP J))))))))
  obtain rfl:j=(Ω i).length:=by omega
  refine aK 3 J (cA fI aB.size i ar cm J (aA (.pointer (some (ar.add 1))) J (bG (d5 ye de) J (aA (no ((Ω i).length:Nat)) J (aH J (dQ ((Ω i).length) ((Ω i).length) J) (aG (aT J (d9 (cY (d7 (d8 (bT ?_))))))))))));refine aL (aK 1 J (bD J (cK i 1 J) (bS 1 J (cP (⟨wq,i+1⟩:a6×Nat) ⟨au,i9,(bd.trans ((UpT.of_ext _ _ dl).trans (UpT.of_upd dr (by rw [←hg];exact (gf i ak).1) (by rw [←hg];exact (gf i ak).2) hu))),((nj.ext dl).turn i9 (by rw [hg];exact hu) (by rw [hg];exact hb))⟩ (show 6+n-(i+1)<6+n-i by omega) J (aP J)))))
 obtain rfl:i=6+n:=by omega
 replace hX:=bd.ownT hX yd;replace hN:=bd.ownT hN yd;replace hF:=nj;replace jo:=jo.upT bd ug;replace bu:=bu.upT bd iz;replace ch:=ch.upT bd jl;replace iy:=bd.bk iy yd;replace ge:=bd.bk ge yd;replace iw:=bd.bk iw yd;replace il:=bd.bk il yd;replace kx:=a8 kx bd.size;have qz:∀j,j<6+n→(tU (6+n) Ω j).length≤1048576:=fun j hj=>by rw [uR];exact hK j hj
 have jq:(kI n fun j=>tU (6+n) Ω (6+j)).sum≤1048576:=by rw [MG (fun i _=>uR _ _)];exact kw
 obtain⟨_,tk⟩:∃S,mX k (sg (ζ 0) (nv ((tU (6+n) Ω) 0))) (sg (ζ 1) (nv ((tU (6+n) Ω) 1))) (sg (ζ 2) (nv ((tU (6+n) Ω) 2))) (sg (ζ 3) (nv ((tU (6+n) Ω) 3))) (sg (ζ 4) (nv ((tU (6+n) Ω) 4))) (sg (ζ 5) (nv ((tU (6+n) Ω) 5))) bs (lM n (fun j=>ζ (6+j)) fun j=>(tU (6+n) Ω) (6+j))=S:=⟨_,rfl⟩;refine aK 2 J (aA (no ((6+n):Nat)) J (aH J (dQ (6+n) (6+n) J) (aG (aT J (d9 (cY (d7 (d8 (aL (sr (lo lP ge [no k,.bool (e 0).s,.slice (e 0).A (e 0).n (e 0).c,.bool (e 1).s,.slice (e 1).A (e 1).n (e 1).c,.bool (e 2).s,.slice (e 2).A (e 2).n (e 2).c,.bool (e 3).s,.slice (e 3).A (e 3).n (e 3).c,.bool (e 4).s,.slice (e 4).A (e 4).n (e 4).c,.bool (e 5).s,.slice (e 5).A (e 5).n (e 5).c,.string (aN bs),up AX n cX] J J J (bI [.agg #[no k,.bool (e 0).s,.slice (e 0).A (e 0).n (e 0).c,.bool (e 1).s,.slice (e 1).A (e 1).n (e 1).c,.bool (e 2).s,.slice (e 2).A (e 2).n (e 2).c,.bool (e 3).s,.slice (e 3).A (e 3).n (e 3).c,.bool (e 4).s,.slice (e 4).A (e 4).n (e 4).c,.bool (e 5).s,.slice (e 5).A (e 5).n (e 5).c,.string (aN bs),up AX n cX]] au (OR (AQ he hX hC hF (fun j=>uR _ j) qz jq hn)) J fun nk _ qp E aq=>?_))))))))))));refine bI [nk] aq (OC aq.size (qp.ext bN) hbs hlen tk) J fun _ rt rk F cv=>?_;obtain⟨o,rfl,lp⟩:=AnsR8.cells rk;have oy:=lp.toV;refine iL J (z:= .agg #[F0,S0,F0,S0,F0,S0,S0,I0,.string ⟨#[]⟩,I0]) (vs:= [F0,S0,F0,S0,F0,S0,S0,I0,.string ⟨#[]⟩,I0]) ye J fun fb _ nb=>?_;have gw_g676:rt.heap.size≤fb:=by rw [←nb.at_];exact aU _
 have oh:=nb.bk;have ov:w.heap.size≤fb:=by rw [←nb.at_];exact cv.size
 have vi:fd<fb:=by rw [←nb.at_];exact (il.ext (E.t F)).lt
 have U:=nb.ext;clear nb;have gb:=cv.trans U;refine so iC oh [.bool o.s,up o.A o.n o.c,.bool o.s',up o.A' o.n' o.c',.bool o.s2,up o.A2 o.n2 o.c2,up o.B o.m o.d,no o.N,.string (aN o.S),no o.E] gb ov J J J J fun rm ij Y go=>(aG (sr (lo lP ((ge.ext (E.t (F.t U))).vN Y) [no k,.bool (e 0).s,.slice (e 0).A (e 0).n (e 0).c,.bool (e 1).s,.slice (e 1).A (e 1).n (e 1).c,.bool (e 2).s,.slice (e 2).A (e 2).n (e 2).c,.bool (e 3).s,.slice (e 3).A (e 3).n (e 3).c,.bool (e 4).s,.slice (e 4).A (e 4).n (e 4).c,.bool (e 5).s,.slice (e 5).A (e 5).n (e 5).c,.string (aN bs),up AX n cX] J J J ?_)));have ie:=(Y.ext ((E.t F).trans U) (a8 (E.t F).size gw_g676));refine bI [.agg #[no k,.bool (e 0).s,.slice (e 0).A (e 0).n (e 0).c,.bool (e 1).s,.slice (e 1).A (e 1).n (e 1).c,.bool (e 2).s,.slice (e 2).A (e 2).n (e 2).c,.bool (e 3).s,.slice (e 3).A (e 3).n (e 3).c,.bool (e 4).s,.slice (e 4).A (e 4).n (e 4).c,.bool (e 5).s,.slice (e 5).A (e 5).n (e 5).c,.string (aN bs),up AX n cX]] go (FN (aU _) (AQ he (hX.ext ie) hC (hF.ext ie) (fun j=>uR _ j) qz jq hn) hbs hlen (hS.ext go) tk) J fun _ jx qj X dx=>?_;obtain⟨rr,rfl,fx⟩:=AnsA8.i qj;obtain⟨bbr,mo⟩:∃q,rm.heap.size=q:=⟨_,rfl⟩;obtain⟨eer,tp⟩:∃q,jx.heap.size=q:=⟨_,rfl⟩;rw [mo,tp] at fx;have kf:bbr≤eer:=by rw [←mo,←tp];exact X.size
 have ke:eeq≤bbr:=by rw [←mo];exact a8 kx (Y.ext ((E.t F).trans U) (a8 (E.t F).size gw_g676)).size
 refine iL J (z:= .agg #[F0,S0,F0,S0,F0,S0,S0,I0,.string ⟨#[]⟩,I0]) (vs:= [F0,S0,F0,S0,F0,S0,S0,I0,.string ⟨#[]⟩,I0]) ye J fun ew _ nb=>?_;have gw_g691:jx.heap.size≤ew:=by rw [←nb.at_];exact aU _
 have ni:=nb.bk;have mh:w.heap.size≤ew:=by rw [←nb.at_];exact dx.size
 have vh:fb<ew:=by rw [←nb.at_];exact (ij.ext X).lt
 have ah:=nb.ext;clear nb;have fm:=dx.trans ah;refine so iC ni [.bool rr.s,up rr.A rr.n rr.c,.bool rr.s',up rr.A' rr.n' rr.c',.bool rr.s2,up rr.A2 rr.n2 rr.c2,up rr.B rr.m rr.d,no rr.N,.string (aN rr.S),no rr.E] fm mh J J J J fun _ dz aj je=>(aG (aD (sr (lo iC dz [.bool rr.s,up rr.A rr.n rr.c,.bool rr.s',up rr.A' rr.n' rr.c',.bool rr.s2,up rr.A2 rr.n2 rr.c2,up rr.B rr.m rr.d,no rr.N,.string (aN rr.S),no rr.E] J J J (lo iC ((ij.ext (X.t ah)).vN aj) [.bool o.s,up o.A o.n o.c,.bool o.s',up o.A' o.n' o.c',.bool o.s2,up o.A2 o.n2 o.c2,up o.B o.m o.d,no o.N,.string (aN o.S),no o.E] J J J ?_)))));have fw:=(aj.ext ah (a8 (Ext.refl _).size gw_g691));refine aX je (yA (a8 kf (fx.ext fw).be) je.size (fx.ext fw).toR (oy.ext (aj.ext (((Y.ext U (a8 (Ext.refl _).size gw_g676)).trans X).trans ah) (a8 ((Y.ext U (a8 (Ext.refl _).size gw_g676)).trans X).size gw_g691))).r) J ?_;rintro _ _ rfl am gy;refine aA (wk) J (mv 1 J (lo iC (((((iw.ext (E.t (F.t U))).vN Y).ext (X.t ah)).vN aj).ext am) [.bool rp.s,up rp.A rp.n rp.c,.bool rp.s',up rp.A' rp.n' rp.c',.bool rp.s2,up rp.A2 rp.n2 rp.c2,up rp.B rp.m rp.d,no rp.N,.string (aN rp.S),no rp.E] J J J (lo iC (((((iy.ext (E.t (F.t U))).vN Y).ext (X.t ah)).vN aj).ext am) [.bool f.s,up f.A f.n f.c,.bool f.s',up f.A' f.n' f.c',.bool f.s2,up f.A2 f.n2 f.c2,up f.B f.m f.d,no f.N,.string (aN f.S),no f.E] J J J ?_)));have ef:=((aj.ext (((Y.ext ((E.t F).trans U) (a8 (E.t F).size gw_g676)).trans X).trans ah) (a8 ((Y.ext ((E.t F).trans U) (a8 (E.t F).size gw_g676)).trans X).size gw_g691)).trans am);refine aX gy (yA (a8 el (bu.ext ef).be) gy.size (bu.ext ef).toR (jo.ext ef).r) J ?_;rintro _ _ rfl az dw;refine aA (wk) J (aA (wk) J (mv 1 J (lo iC (((((il.ext (E.t (F.t U))).vN Y).ext (X.t ah)).vN aj).ext (am.t az)) [.bool rq.s,up rq.A rq.n rq.c,.bool rq.s',up rq.A' rq.n' rq.c',.bool rq.s2,up rq.A2 rq.n2 rq.c2,up rq.B rq.m rq.d,no rq.N,.string (aN rq.S),no rq.E] J J J (lo iC (((((iy.ext (E.t (F.t U))).vN Y).ext (X.t ah)).vN aj).ext (am.t az)) [.bool f.s,up f.A f.n f.c,.bool f.s',up f.A' f.n' f.c',.bool f.s2,up f.A2 f.n2 f.c2,up f.B f.m f.d,no f.N,.string (aN f.S),no f.E] J J J ?_))));have eh:=(((aj.ext (((Y.ext ((E.t F).trans U) (a8 (E.t F).size gw_g676)).trans X).trans ah) (a8 ((Y.ext ((E.t F).trans U) (a8 (E.t F).size gw_g676)).trans X).size gw_g691)).trans am).trans az);refine aX dw (yA (a8 ey (ch.ext eh).be) dw.size (ch.ext eh).toR (jo.ext eh).r) J ?_;rintro _ ag rfl bm dh;refine aA (wk) J (aA (wk) J (aG (aT J (bB (aL (aD ?_))))));have fg:=dh;have tc:hi≤bbr:=a8 (a8 jl ey) ke;have ba:=((((aj.ext (((Y.ext ((E.t F).trans U) (a8 (E.t F).size gw_g676)).trans X).trans ah) (a8 ((Y.ext ((E.t F).trans U) (a8 (E.t F).size gw_g676)).trans X).size gw_g691)).trans am).trans az).trans bm);obtain⟨Xp,Up,sgp,owp,xlp,xap,xbp,xnp⟩:=(bu.ext ba).book (lb:=w.heap.size) (a8 bw (a8 dy iz));obtain⟨Xq,Uq,sgq,owq,xlq,xaq,xbq,xnq⟩:=(ch.ext ba).book (lb:=w.heap.size) (a8 bw (a8 dy jl));have ib:=((((aj.ext ah (a8 (Ext.refl _).size gw_g691)).trans am).trans az).trans bm);obtain⟨Xr,Ur,sgr,owr,xlr,xar,xbr,xnr⟩:=(fx.ext ib).book (lb:=w.heap.size) (a8 bw (a8 dy tc));obtain⟨rF,du⟩:∃q,f3 rp rq rr=q:=⟨_,rfl⟩;obtain⟨XS,jm⟩:∃q,f3 Xp Xq Xr=q:=⟨_,rfl⟩;obtain⟨US,pq⟩:∃q,f3 Up Uq Ur=q:=⟨_,rfl⟩;obtain⟨bs_,en⟩:∃q,f3 bbp bbq bbr=q:=⟨_,rfl⟩;obtain⟨qs,nx⟩:∃q,f3 eep eeq eer=q:=⟨_,rfl⟩;obtain⟨LS,ji⟩:∃L:Nat→List Lst,L=fun i=>(rF i).ls (XS i):=⟨_,rfl⟩;have ud:∀i,i<3→Sg ag w.heap.size (fun g=>bs_ i≤g∧g<qs i) (LS i):=by subst ji du jm en nx;exact pR sgp sgq sgr
 have sc:∀i,i<3→Own ag w.heap.size 24 2 (rF i).B (rF i).m (rF i).d (US i):=by subst du pq;exact pR owp owq owr
 have qx:∀i,i<3→(XS i).length=(rF i).m:=by subst du jm;exact pR xlp xlq xlr
 have uk:∀i,i<3→∀j,j<(rF i).m→(US i)[j*2+1]?=some ((XS i).getD j Lst.z).v:=by subst du jm pq;exact pR xap xaq xar
 have ux:∀i,i<3→∀p,(rF i).B=some p→bs_ i≤p.block∧p.block<qs i:=by subst du en nx;exact pR xbp xbq xbr
 have vb:∀i,i<3→∀x,x∈LS i→x.n≤1099511620000:=by subst ji du jm;exact pR xnp xnq xnr
 have me:∀i,i<3→(rF i).m≤200000000:=by subst du;exact pR ((bu.ext ba).ml) ((ch.ext ba).ml) ((fx.ext ib).ml)
 have dr:∀i,i<3→hi≤bs_ i:=by subst en;exact pR iz jl tc
 have jw:∀i j,i<j→j<3→qs i≤bs_ j:=by subst en nx;exact V2 (pR el ey kf) (fun i hi=>pR (p:=fun i=>i+1<3→f3 eep eeq eer i≤f3 bbp bbq bbr (i+1)) (fun _=>jr) (fun _=>ke) (fun h=>absurd h yd) i i9 hi)
 have pj:∀i,i<3→(LS i).length=3+(rF i).m:=fun i hi=>by rw [ji,AR8.ls_len,qx i hi]
 have dm:∀n,n≤3→(iD LS n).length≤600000009:=fun n hn=>a8 (QH (n:=n) (M:=200000003) (fun i hi=>by have h1:=pj i i9;have h2:=me i i9;omega)) (a8 (Nat.mul_le_mul_right _ hn) yd);obtain⟨MS,jd,jf⟩:∃L:Nat→Lst,(∀i,i<3→L i=⟨(rF i).B,(rF i).m,(rF i).d⟩)∧L 3=⟨AX,n,cX⟩:=⟨fun i=>if i<3 then ⟨(rF i).B,(rF i).m,(rF i).d⟩ else ⟨AX,n,cX⟩,fun i hi=>if_pos hi,rfl⟩;have sn:=(hX.ext ba);have jb:=(hF.ext ba);refine bH (aA (.agg #[S0,S0,S0]) J (nQ J J (vs:= [S0,S0,S0]) J fun aa ta nb=>?_));have gw_g717:ag.heap.size≤aa:=by rw [←nb.at_];exact aU _
 have geW_g717:ag.heap.size≤aa:=by rw [←nb.at_];exact (aU _)
 have gi:=nb.bk;have tw:w.heap.size≤aa:=by rw [←nb.at_];exact dh.size
 have vd:ew<aa:=by rw [←nb.at_];exact (dz.ext (am.t (az.t bm))).lt
 have bp:=nb.ext;clear nb;have dt:=dh.trans bp;refine aE 1 J (aD (sr (lo iC (((((iw.ext (E.t (F.t U))).vN Y).ext (X.t ah)).vN aj).ext (am.t (az.t (bm.t bp)))) [.bool rp.s,up rp.A rp.n rp.c,.bool rp.s',up rp.A' rp.n' rp.c',.bool rp.s2,up rp.A2 rp.n2 rp.c2,up rp.B rp.m rp.d,no rp.N,.string (aN rp.S),no rp.E] J J J (lo iC (((((il.ext (E.t (F.t U))).vN Y).ext (X.t ah)).vN aj).ext (am.t (az.t (bm.t bp)))) [.bool rq.s,up rq.A rq.n rq.c,.bool rq.s',up rq.A' rq.n' rq.c',.bool rq.s2,up rq.A2 rq.n2 rq.c2,up rq.B rq.m rq.d,no rq.N,.string (aN rq.S),no rq.E] J J J (lo iC (dz.ext (am.t (az.t (bm.t bp)))) [.bool rr.s,up rr.A rr.n rr.c,.bool rr.s',up rr.A' rr.n' rr.c',.bool rr.s2,up rr.A2 rr.n2 rr.c2,up rr.B rr.m rr.d,no rr.N,.string (aN rr.S),no rr.E] J J J (iF J J (k:=3) (e:=33) [.bool rp.s,up rp.A rp.n rp.c,.bool rp.s',up rp.A' rp.n' rp.c',.bool rp.s2,up rp.A2 rp.n2 rp.c2,up rp.B rp.m rp.d,no rp.N,.string (aN rp.S),no rp.E,.bool rq.s,up rq.A rq.n rq.c,.bool rq.s',up rq.A' rq.n' rq.c',.bool rq.s2,up rq.A2 rq.n2 rq.c2,up rq.B rq.m rq.d,no rq.N,.string (aN rq.S),no rq.E,.bool rr.s,up rr.A rr.n rr.c,.bool rr.s',up rr.A' rr.n' rr.c',.bool rr.s2,up rr.A2 rr.n2 rr.c2,up rr.B rr.m rr.d,no rr.N,.string (aN rr.S),no rr.E] ye fun bf kc nb=>?_))))));have gw_g723:ta.heap.size≤bf:=by rw [←nb.at_];exact aU _
 have geW_g723:ag.heap.size≤bf:=by rw [←nb.at_];exact bp.size
 have ow:=nb.bk;have uy:w.heap.size≤bf:=by rw [←nb.at_];exact dt.size
 have ve:aa<bf:=by rw [←nb.at_];exact gi.lt
 have ez:=nb.ext;clear nb;have ei:=dt.trans ez;have mr:Bk kc bf 33 (rp.cells++rq.cells++rr.cells):=ow;refine aA (no 3) J (aE 1 J (bO ?_));refine dC (T:=a6×Nat×Option a7×Nat×Option a7×Nat) (fun⟨wB,i,WA,wc,IA,ic⟩=> [(4,i5 cz 0),(9,up bj (6+n) bo),(14,i5 aa 0),(143,up (some ⟨bf,0,none⟩) 3 3),(144,no 3),(145,no i)]) (fun⟨wB,i,WA,wc,IA,ic⟩=>wB) (fun⟨wB,i,WA,wc,IA,ic⟩=>(Ext w wB)∧(i≤3)∧(Ext ag wB)∧(Bk wB bf 33 (rp.cells++rq.cells++rr.cells))∧(Bk wB cz 29 [no k,.bool (e 0).s,.slice (e 0).A (e 0).n (e 0).c,.bool (e 1).s,.slice (e 1).A (e 1).n (e 1).c,.bool (e 2).s,.slice (e 2).A (e 2).n (e 2).c,.bool (e 3).s,.slice (e 3).A (e 3).n (e 3).c,.bool (e 4).s,.slice (e 4).A (e 4).n (e 4).c,.bool (e 5).s,.slice (e 5).A (e 5).n (e 5).c,.string (aN bs),up AX n cX])∧(Bk wB aa 48 [.slice WA (iD LS i).length wc,up IA i ic,S0])∧(Own wB ag.heap.size 22 1 WA (iD LS i).length wc ((iD LS i).map Lst.v))∧(Own wB ag.heap.size 27 1 IA i ic (((eI i).map MS).map Lst.v))) (fun⟨wB,i,WA,wc,IA,ic⟩=>3-i) (⟨kc,0,none,0,none,0⟩:a6×Nat×Option a7×Nat×Option a7×Nat) ⟨ei,(bX _),(bp.t ez),mr,(((((ge.ext (E.t (F.t U))).vN Y).ext (X.t ah)).vN aj).ext (am.t (az.t (bm.t (bp.t ez))))),(gi.ext ez),(Own.nil _ _ _ _),(Own.nil _ _ _ _)⟩ J (aP J) ?_;rintro⟨wB,i,WA,wc,IA,ic⟩ ⟨au,fc,hc,jg,fz,gj,fe,ga⟩;refine aD ?_;by_cases ak:i<3
 ·refine bH (aH J (dV i 3 J) (aG (aD (bC J (bB (aL (aD (bO (sr ?_)))))))));obtain⟨po,mg,ig⟩:=at3 jg ak;rw [du] at ig;refine cA Tryz.underlying49 iC.size i po mg J (bG (ig _ bN) J (iL J (z:= .agg #[F0,S0,F0,S0,F0,S0,S0,I0,.string ⟨#[]⟩,I0]) (vs:= [F0,S0,F0,S0,F0,S0,S0,I0,.string ⟨#[]⟩,I0]) ye J fun aw _ nb=>?_));have geW_g731:ag.heap.size≤aw:=by rw [←nb.at_];exact hc.size
  have gw_g731:wB.heap.size≤aw:=by rw [←nb.at_];exact aU _
  have da:=nb.bk;have mu:w.heap.size≤aw:=by rw [←nb.at_];exact au.size
  have vg:bf<aw:=by rw [←nb.at_];exact jg.lt
  have bg:=nb.ext;clear nb;have aq:=au.trans bg;refine so iC da [.bool (rF i).s,.slice (rF i).A (rF i).n (rF i).c,.bool (rF i).s',.slice (rF i).A' (rF i).n' (rF i).c',.bool (rF i).s2,.slice (rF i).A2 (rF i).n2 (rF i).c2,.slice (rF i).B (rF i).m (rF i).d,no (rF i).N,.string (aN (rF i).S),no (rF i).E] aq mu J J J J fun _ fy bi cv=>(aG (aV 1 J (pf aw 0 J (pf aw 0 J (lo aB fy [.bool (rF i).s,.slice (rF i).A (rF i).n (rF i).c] J J J (dP [i5 aa 0,.agg #[.bool (rF i).s,.slice (rF i).A (rF i).n (rF i).c]] (BO (n:=(iD LS i).length) ((gj.ext bg).updTT da yd bi) ((fe.ext bg).updT da yd bi) (bi.ext (hc.trans bg) geW_g731).size geW_g717 (by have:=dm i fc;omega)) J ?_))))));rintro _ _ ⟨rfl,ci,_,_,om,kt⟩;refine dO ?_;have kv:=ci.own ((ga.ext bg).updT da yd bi) yd yd;have hc:=ci.k.ext (bi.ext (hc.trans bg) geW_g731) (aU _);have gb:=fg.trans hc;have nu:=ci.k.bk ((jg.ext bg).vN bi) yd yd yd;have oi:=ci.k.bk ((fz.ext bg).vN bi) yd yd yd;have gg:=ci.k.bk fy yd yd yd;refine aG (aV 1 J (pf aw 0 J (pf aw 2 J (lo aB gg [.bool (rF i).s',.slice (rF i).A' (rF i).n' (rF i).c'] J J J (dP [i5 aa 0,.agg #[.bool (rF i).s',.slice (rF i).A' (rF i).n' (rF i).c']] (BO (n:=(iD LS i).length+1) om kt hc.size geW_g717 (by have:=dm i fc;omega)) J ?_)))));rintro _ _ ⟨rfl,cp,_,_,kr,mi⟩;refine dO ?_;have mn:=cp.own kv yd yd;have hc:=cp.k.ext hc (aU _);have go:=fg.trans hc;have nl:=cp.k.bk nu yd yd yd;have mf:=cp.k.bk oi yd yd yd;have iq:=cp.k.bk gg yd yd yd;refine aG (aV 1 J (pf aw 4 J (lo aB iq [.bool (rF i).s2,.slice (rF i).A2 (rF i).n2 (rF i).c2] J J J (dP [i5 aa 0,.agg #[.bool (rF i).s2,.slice (rF i).A2 (rF i).n2 (rF i).c2]] (BO (n:=(iD LS i).length+1+1) kr mi hc.size geW_g717 (by have:=dm i fc;omega)) J ?_))));rintro _ _ ⟨rfl,cj,_,_,ku,lu⟩;refine dO ?_;have mx:=cj.own mn yd yd;have hc:=cj.k.ext hc (aU _);have dx:=fg.trans hc;have lh:=cj.k.bk nl yd yd yd;have lm:=cj.k.bk mf yd yd yd;have ia:=cj.k.bk iq yd yd yd;refine aG (aK 1 J (pf aw 6 J (dG ia J (dP [i5 aa 0,up ((rF i).B) ((rF i).m) ((rF i).d)] (OV (n:=(iD LS i).length+1+1+1) (k:=i) (ms:=(eI i).map MS) (xs:=XS i) ku lu mx hc.size geW_g717 ((sc i ak).ext hc) (qx i ak) (uk i ak) (by have:=dm i fc;have:=me i ak;omega) i9) J ?_))));rintro _ py ⟨rfl,df,_,_,_,_,oq,ma,lj⟩;refine dO ?_;have hc:=df.ext hc (aU _);have fm:=fg.trans hc;have nz:=df.bk lh yd yd yd;have ky:=df.bk lm yd yd yd;have um:=df.bk ia yd yd yd;refine cF (bT (aL (bH (bD J (cK i 1 J) (bS 1 J ?_)))));have jz:(iD LS (i+1)).length=(iD LS i).length+1+1+1+(rF i).m:=by rw [iD,f8,pj i ak];omega
  have ul:(((iD LS i++ [⟨(rF i).A,(rF i).n,(rF i).c⟩])++ [⟨(rF i).A',(rF i).n',(rF i).c'⟩])++ [⟨(rF i).A2,(rF i).n2,(rF i).c2⟩])++XS i=iD LS (i+1):=by rw [a3T,iD,ji];rfl
  have uh:(eI i).map MS++ [⟨(rF i).B,(rF i).m,(rF i).d⟩]=(eI (i+1)).map MS:=by rw [KZ,jd i ak]
  refine cP (⟨py,i+1,_,_,_,_⟩:a6×Nat×Option a7×Nat×Option a7×Nat) ⟨fm,i9,hc,nz,ky,(by rw [jz];exact oq),(by rw [jz,←ul];exact ma),(by rw [←uh];exact lj)⟩ (show 3-(i+1)<3-i by omega) J (aP J)
 obtain rfl:i=3:=by omega
 obtain⟨RB,jp⟩:∃l,l=mF n (fun j=>γ (6+j)) (fun j=>Ω (6+j)):=⟨_,rfl⟩;have ju:RB.length=n:=by rw [jp,vI]
 have vj:=dm 3 (aU 3);have ry:∀i,i<n→us[i*2+1]?=some (RB.getD i Lst.z).v:=fun i hi=>by rw [jp,(hC i hi).2,vJ hi];rfl
 refine bH (fP J J J false (aG (aD (aT J (d9 (cY (d7 (d8 (aL (aV 1 J (pf cz 14 J (dG fz J ?_))))))))))));refine dP [i5 aa 0,up AX n cX] (OV (n:=(iD LS 3).length) (k:=3) (ms:=(eI 3).map MS) (xs:=RB) gj fe ga hc.size geW_g717 (sn.ext hc) ju ry i9 i9) J ?_;rintro _ tj ⟨rfl,eg,_,_,ik,kp,oa,ou,mc⟩;refine dO ?_;have hc:=eg.ext hc (aU _);have aq:=fg.trans hc;have uw:=eg.bk jg yd yd yd;have uo:=eg.bk fz yd yd yd;refine aG (aD (sr (aE 1 J (bO ?_))));have uv:(eI 3).map MS++ [⟨AX,n,cX⟩]=(eI 4).map MS:=by have h:=KZ MS 3;rw [jf] at h;exact h.symm
 refine dC (T:=a6×Nat×Option a7×Nat) (fun⟨wC,i,WA,wc⟩=> [(9,up bj (6+n) bo),(14,i5 aa 0),(17,no i)]) (fun⟨wC,i,WA,wc⟩=>wC) (fun⟨wC,i,WA,wc⟩=>(Ext w wC)∧(i≤6)∧(Ext ag wC)∧(Bk wC aa 48 [up WA ((iD LS 3).length+n+i) wc,up ik 4 kp,S0])∧(Own wC ag.heap.size 22 1 WA ((iD LS 3).length+n+i) wc (((iD LS 3++RB)++(mF 6 γ Ω).take i).map Lst.v))∧(Own wC ag.heap.size 27 1 ik 4 kp (((eI 4).map MS).map Lst.v))) (fun⟨wC,i,WA,wc⟩=>6-i) (⟨tj,0,_,_⟩:a6×Nat×Option a7×Nat) ⟨aq,(bX _),hc,(by rw [fN];exact oa),(by rw [fN,List.take_zero,m7];exact ou),(by rw [←uv];exact mc)⟩ J (aP J) ?_;rintro⟨wC,i,WA,wc⟩ ⟨au,fc,hc,gj,fe,ga⟩;refine aD (aD ?_);by_cases ak:i<6
 ·refine aK 1 J (aH J (dV i 6 J) (aG (bC J (bB (aL (aD (bO (aK 3 J ?_))))))));obtain⟨te,oo,lv⟩:=rN ((hN.ext ba).ext hc) (i:=i) i9 (ft i i9).1 (ft i i9).2;refine cA fI aB.size i te oo J (bG (lv _ bN _ _ aB) J (dP [i5 aa 0,.agg #[.bool (ζ i),.slice (some ⟨γ i,0,none⟩) (Ω i).length ((Ω i).length+80)]] (BO (n:=((iD LS 3).length+n+i)) gj fe hc.size geW_g717 i9) J ?_));rintro _ sj ⟨rfl,gk,_,_,mz,ot⟩;refine dO ?_;have nw:=gk.own ga yd yd;have hc:=gk.k.ext hc (aU _);have aq:=fg.trans hc;refine cF (bT (aL (aK 1 J (bD J (cK i 1 J) (bS 1 J (cP (⟨sj,i+1,_,_⟩:a6×Nat×Option a7×Nat) ⟨aq,i9,hc,mz,(by rw [←K8 _ _ (by rw [vI];exact ak),vJ ak];exact ot),nw⟩ (show 6-(i+1)<6-i by omega) J (aP J)))))))
 obtain rfl:i=6:=by omega
 refine aK 1 J (fP J J J false (aG (aT J (d9 (cY (d7 (d8 (aL (aV 1 J ?_)))))))));have td:(mF 6 γ Ω).length=6:=vI _ _ _;rw [List.take_of_length_le (by rw [td];exact aU _)] at fe;have hlen:((iD LS 3++RB)++mF 6 γ Ω).length=(iD LS 3).length+n+6:=by rw [f8,f8,td,ju]
 have tz:((eI 4).map MS).length=4:=rfl;have pd:=gj;have sv:=fe;rw [←hlen] at pd sv;have md:=NC (ls:=((iD LS 3++RB)++mF 6 γ Ω)) (M:=1099511620000) (fun x hx=>(m5.1 hx).elim (fun hx=>(m5.1 hx).elim (fun h=>QI (Q:=fun x=>x.n≤1099511620000) vb x h) (fun h=>a8 (ND (fun j hj=>hK (6+j) i9) x (jp▸h)) yd)) (fun h=>a8 (ND (fun j hj=>hK j i9) x h) yd))
 have ue:=NC (ls:=(eI 4).map MS) (M:=1099511620000) (fun x hx=>by
  obtain⟨i,hi,rfl⟩:=m4.1 hx
  have pe:=j5.1 hi
  by_cases h3:i<3
  ·rw [jd i h3];exact a8 (me i h3) yd
  ·obtain rfl:i=3:=by omega
   rw [jf];exact a8 hn yd)
 have sgB:Sg ag w.heap.size (fun g=>γ 5<g∧g<hi) RB:=by
  rw [jp]
  exact Sg.fam jb.back (fun j=>uR _ _) bw (fun j hj=>hK (6+j) i9) (fun j hj=>⟨jb.2 5 (6+j) i9 i9,(gf (6+j) i9).2⟩)
 have sgF:Sg ag w.heap.size (fun g=>g≤γ 5) (mF 6 γ Ω):=Sg.fam jb.front (fun j=>uR _ _) bw (fun j hj=>hK j i9) (fun j hj=>jb.le5 hj);have vk:=(gf 5 i9).2
 have sgA:=((Sg.acc ud jw).app sgB (by rintro g ⟨i,oe,h1,_⟩ ⟨_,h2⟩;have:=dr i oe;omega)).app sgF (by
  rintro g (⟨i,oe,h1,_⟩ | ⟨h1,_⟩) h2
  ·have:=dr i oe;omega
  ·omega)
 have ur:Ai1 ag w.heap.size ((eI 4).map MS) 0 0:=a3O (us:=fun i=>if i<3 then US i else us) (bs:=fun i=>if i<3 then bs_ i else lq) (es:=fun i=>if i<3 then qs i else hi) (fun i pe=>by
   by_cases h3:i<3
   ·rw [jd i h3,if_pos h3];exact sc i h3
   ·obtain rfl:i=3:=by omega
    rw [jf,if_neg h3];exact sn.mono bw) (fun i pe=>by
   by_cases h3:i<3
   ·rw [jd i h3,if_pos h3,if_pos h3];exact ux i h3
   ·obtain rfl:i=3:=by omega
    rw [jf,if_neg h3,if_neg h3];exact qw) (fun i j vc hj=>by
   by_cases h3:j<3
   ·rw [if_pos h3,if_pos h3,if_pos i9,if_pos i9];exact cJ (jw i j vc h3)
   ·rw [if_neg h3,if_neg h3,if_pos i9,if_pos i9];exact cN (dr i i9))
 refine dP [i5 aa 0] (a1I (ls:=((iD LS 3++RB)++mF 6 γ Ω)) (ms:=(eI 4).map MS) (lb:=w.heap.size) pd sv ga (sgA.al.ext hc) (ur.ext hc) au.size (by rw [hlen];omega) md (bq J) ue) J ?_;rintro _ _ ⟨rfl,mt⟩;refine dO ?_;have tx:=mt w au (aU _);have au:=tx;refine aE 1 J (bA (aZ [we] J ⟨rfl,xl⟩ ?_));exact⟨_,rfl,rfl,au⟩
theorem Zl.zwS (h:Zl w A n cap zs ms):∃σ ω,Zw w A n cap σ ω∧kI n ω=ms:=by
 obtain⟨σ,ω,h1,_,o⟩:=h.zw;refine⟨σ,ω,h1,List.ext_getElem? fun i=>?_⟩;unfold kI;by_cases hi:i<n
 ·have f:=o i hi;rw [bL,cT (by rw [h.mlen];exact hi)] at f;rw [jM,List.getElem?_range hi,cT (by rw [h.mlen];exact hi),sM,f,nM]
 rw [jT (by rw [List.length_map,List.length_range];omega),jT (by rw [h.mlen];omega)]
theorem a0p (h:GU w us)(hS:Signs w):aQ aM 3 #[.agg us.toArray] w (uE true w):=by
 obtain⟨k,sa,Aa,na,ca,za,sb,Ab,nb,cb,zb,sd,Ad,nd,cd,zd,se,Ae,ne,ce,ze,sf,Af,nf,cf,zf,sg,Ag,ng,cg,zg,C,n,c,zs,ms,bs,rfl,⟨⟨xa,G,_⟩,la,⟨xb,hb,_⟩,lb,⟨xd,F,_⟩,ld,⟨xe,he,_⟩,le,⟨xf,hf,_⟩,lf,⟨xg,hg,_⟩,lg⟩,hl,o,hn,E,f⟩:=h;obtain⟨σ,ω,H,e⟩:=hl.zwS;obtain rfl:=G.len;obtain rfl:=hb.len;obtain rfl:=F.len;obtain rfl:=he.len;obtain rfl:=hf.len;obtain rfl:=hg.len;exact (a0o G la hb lb F ld he le hf lf hg lg H (by rw [e];exact o) hn E f hS).mono fun e w' h=>a3p _ _ h
end Go.Proofs.YtkkabncicmhjfaaGreatDoor
