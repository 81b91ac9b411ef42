/- Parts Rf8c, Sxt, Fbc, Fbd, Rf8d, Rf8e, Keep0, Ref3g, Rc8r, joined. -/
import Derived.Test.YtkepckmdjncehaaGreatDoorG5

open Go renaming Addr → aB, Calls → aP, Oper → bD, Program → bW, TypeId → aS, Value → aM, World → a6
open Array renaming replicate → pA
open Bool renaming and_eq_true → eK, not_eq_true' → AN
open Go.Instr renaming alloc → AM
open Int renaming emod_lt_of_pos → k9, emod_nonneg → j0
open List renaming all_eq_true → fV, append_nil → mF, contains_iff_mem → jR, getD_eq_getElem?_getD → bK, getElem?_eq_getElem → cC, getElem?_eq_some_iff → gY, length_append → fU, length_cons → eN, mem_range → iT, range → gE
open Nat renaming add_sub_cancel → mC, div_le_self → fH, le_refl → aZ, le_trans → a8, lt_of_lt_of_le → dJ, lt_or_ge → i7, mod_add_div → iS, mod_lt → f7, mul_add → cI, pow_add → dU, pow_le_pow_right → eS, pow_succ → cW, zero_add → eJ, zero_le → bJ
open Ne renaming symm → kH
open Go.Oper renaming upon → kG
open Option.some renaming injEq → eB
open Or renaming inl → cH, inr → cO
open Go.Region renaming wanted → qA
open Go.Sem renaming run_bind → cE
open Go.Proofs.Tryz renaming prog → aN
open Go.Value renaming pointer → wG
namespace Go.Proofs.YtkepckmdjncehaaGreatDoor
set_option maxHeartbeats 8000000
set_option maxRecDepth 20000
variable {A Aa Ab Ad B D dp sp:Option aB}{K N P R X b c ca cap cap' cd d g i id j n na:Nat}{acc:Fr}{af:Array Edge}{is l l' lx ly ms xs:List Nat}{m p q r x y z:Int}{o:bD}{pos:String}{s sa sb sd t:Bool}{ty:aS}{us vs:List aM}{v:aM}{w w':a6}{zs:List Int}
open Go.RowKit
theorem xR (hb:b≤w.heap.size){m:Nat}(hlow:Low p q x y)(hx:Zi w s A n cap x)(hl:n≤1073741824)(hy:Zi w t B m cap' y)(hl':m≤1073741824):aP aN 82 #[O s A n cap,O t B m cap'] w (Gv w (T2 (FR b p q) (Is (no 0)))):=by
 obtain⟨h0,h1,h2⟩:=yB hlow
 have h:=pL hb hx hl hy hl'
 rw [←h1,←h2,nE h0] at h
 exact h
theorem C3 (hb:b≤w.heap.size){m:Nat}(h0:y=0)(hx:Zi w s A n cap x)(hl:n≤1073741824)(hy:Zi w t B m cap' y)(hl':m≤1073741824):aP aN 82 #[O s A n cap,O t B m cap'] w (Gv w (T2 (FR b 0 0) (Is (no 4)))):=by
 have h:=pL hb hx hl hy hl'
 rw [CB h0,IQ h0,oI h0] at h
 exact h
theorem I5 {t:List Nat}(ht:t=gQ x)(hx:Zi w s A n c x)(la:n≤1048576):aP aN 139 #[O s A n c] w (Gv w (Is (.string (aJ t)))):=by subst ht;exact WO hx la
def iK (p q:Int):Int:=if 0<bE (rF p q+rF p q) q∨(bE (rF p q+rF p q) q=0∧qF p q%2≠0) then qF p q+1 else qF p q
theorem jU (hq:0<q)(h:ln p≤N):ln (qF p q)≤N:=by
 refine a8 (dZ ?_) h
 have hs:=yN (x:=p) (y:=q) (by omega)
 have h1:=hs.eq
 have h2:=hs.pos hq
 generalize qF p q=f at*
 generalize rF p q=r at*
 rcases Int.lt_or_le f 0 with hf | hf
 ·have e:(f+1)*q≤(f+1)*1:=Int.mul_le_mul_of_nonpos_left (by omega) (by omega)
  rw [Int.add_mul,Int.one_mul] at e
  omega
 ·have:f*1≤f*q:=Int.mul_le_mul_of_nonneg_left (by omega) hf
  omega
theorem lZ (hq:0<q)(h:ln q≤N):ln (rF p q)≤N:=by
 refine a8 (dZ ?_) h
 have h2:=(yN (x:=p) (y:=q) (by omega)).pos hq
 omega
theorem T6 {nd:Nat}(hx:Zi w sa Aa na ca x)(la:na≤1048576)(hy:Zi w sd Ad nd cd y)(ld:nd≤1048576):aP aN 88 #[a9 sa Aa na ca sd Ad nd cd] w (Gv w (T2 (ZR w.heap.size (qF x y)) (Is (no (eZ y))))):=by
 have Lx:ln x≤1048576:=a8 hx.ln la
 have Ly:ln y≤1048576:=a8 hy.ln ld
 refine bN Tryz.func88 J (n:=18) J (bq J) (args:= [a9 sa Aa na ca sd Ad nd cd]) (bG [(0,a9 sa Aa na ca sd Ad nd cd)] ⟨rfl,AT⟩ (sr (bx [.bool sa,we Aa na ca,.bool sd,we Ad nd cd] (Ext.refl w) J J J fun g1 _ F _ _ av=>(bL [F0,S0] av F.lt (fun _=>by kernel_rfl) J fun _ _ Z ae _ e8 p=>(mv 1 J (a7 (sr (pf g1 0 J (lo aA (F.ext e8) (a5 sa Aa na ca) J J J (pf g1 2 J (lo aA (F.ext e8) (a5 sd Ad nd cd) J J J (cl (vs:= [O sa Aa na ca,O sd Ad nd cd]) p (CR p.size (hx.ext p) (aK la J) (hy.ext p) (aK ld J)) J (by kernel_rfl) fun _ _ au Y ak=>?_))))))))))))
 obtain⟨_,_,_,rfl,⟨h,e,f,o,rfl,aj⟩,⟨ab,W,aa,M,rfl,_⟩,rfl⟩:=au
 refine mv 1 J (pu (v:= O h e f o) J (pu (v:= O ab W aa M) J (pu (v:= no (eZ y)) J (bL [F0,S0] ak (Z.ext Y).lt (fun _=>by kernel_rfl) J fun _ _ D U _ X am=>(bL [F0,S0] am D.lt (fun _=>by kernel_rfl) J fun _ _ ah V _ I ai=>?_)))))
 have r:=(D.ext I)
 refine so aA r (a5 h e f o) ai U J J J J fun _ ag H aq=>?_
 have E:=(ah.vN H)
 refine so aA E (a5 ab W aa M) aq V J J J J fun _ _ G ao=>(mv 1 J (a7 (sr (lo aA (ag.vN G) (a5 h e f o) J J J (mv 1 J ?_)))))
 have q:=(((Z.ext (Y.t (X.t I))).vN H).vN G)
 refine so aA q (a5 h e f o) ao ae J J J J fun _ L ar ap=>(mv 1 J (a7 (aV (aU [O h e f o,no (eZ y)] J ⟨⟨_,rfl,bH aA L (a5 h e f o) J (bq J) rfl⟩,rfl,AT⟩ ?_))))
 exact⟨_,rfl,⟨_,_,rfl,⟨_,_,_,_,rfl,((((aj.ext (X.t I)).updT r H).updT E G).updT q ar)⟩,rfl⟩,ap⟩
theorem ST {nd:Nat}(hx:Zi w sa Aa na ca x)(la:na≤1048576)(hy:Zi w sd Ad nd cd y)(ld:nd≤1048576)(h0:y=0):aP aN 90 #[a9 sa Aa na ca sd Ad nd cd] w (Gv w (T2 (Is (.string (aJ []))) (Is (no 4)))):=by
 have Lx:ln x≤1048576:=a8 hx.ln la
 have Ly:ln y≤1048576:=a8 hy.ln ld
 refine bN Tryz.func90 J (n:=33) J (bq J) (args:= [a9 sa Aa na ca sd Ad nd cd]) (bG [(0,a9 sa Aa na ca sd Ad nd cd)] ⟨rfl,AT⟩ (sr (bx [.bool sa,we Aa na ca,.bool sd,we Ad nd cd] (Ext.refl w) J J J fun U _ f _ _ e=>(mv 2 J (a7 (sr (pf U 0 J (lo aA f (a5 sa Aa na ca) J J J (pf U 2 J (lo aA f (a5 sd Ad nd cd) J J J (cl (vs:= [O sa Aa na ca,O sd Ad nd cd]) e (C3 e.size h0 (hx.ext e) (aK la J) (hy.ext e) (aK ld J)) J (by kernel_rfl) fun _ _ V W M=>?_)))))))))))
 obtain⟨_,_,rfl,⟨q,r,p,o,G,D,H,E,rfl,_,_⟩,rfl⟩:=V
 refine mv 1 J (pu (v:= a9 q r p o G D H E) J (pu (v:= no 4) J (bL [F0,S0,F0,S0] M (f.ext W).lt (fun _=>by kernel_rfl) J fun _ _ F h _ _ I=>(so bC F [.bool q,we r p o,.bool G,we D H E] I h J J J J fun _ _ _ L=>(mv 1 J (a7 (aD (sr (mv 1 J (aI J J J true (by decide) (a7 (aW J (aD ?_)))))))))))))
 refine aF (mv 3 J (a7 (aV (bR (aU [.string (aJ ([])),no 4] J ⟨rfl,rfl,AT⟩ ?_)))))
 exact⟨_,rfl,⟨_,_,rfl,rfl,rfl⟩,L⟩
theorem SU {nd:Nat}(hx:Zi w sa Aa na ca x)(la:na≤1048576)(hy:Zi w sd Ad nd cd y)(ld:nd≤1048576)(hlow:Low p q x y):aP aN 90 #[a9 sa Aa na ca sd Ad nd cd] w (Gv w (T2 (Is (.string (aJ (lA p q)))) (Is (no 0)))):=by
 have Lx:ln x≤1048576:=a8 hx.ln la
 have Ly:ln y≤1048576:=a8 hy.ln ld
 have Lp:ln p≤1048576:=a8 (dZ hlow.np) Lx
 have Lq:ln q≤1048576:=a8 (dZ hlow.nq) Ly
 have eh:=hlow.pos
 obtain⟨sp,ab⟩:∃t,t=gQ p:=⟨_,rfl⟩
 obtain⟨sq,ao⟩:∃t,t=gQ q:=⟨_,rfl⟩
 have dz:sp.length≤67108866:=ab▸xA Lp
 have dx:sq.length≤67108866:=ao▸xA Lq
 refine bN Tryz.func90 J (n:=33) J (bq J) (args:= [a9 sa Aa na ca sd Ad nd cd]) (bG [(0,a9 sa Aa na ca sd Ad nd cd)] ⟨rfl,AT⟩ (sr (bx [.bool sa,we Aa na ca,.bool sd,we Ad nd cd] (Ext.refl w) J J J fun g1 _ am _ _ aa=>(mv 2 J (a7 (sr (pf g1 0 J (lo aA am (a5 sa Aa na ca) J J J (pf g1 2 J (lo aA am (a5 sd Ad nd cd) J J J (cl (vs:= [O sa Aa na ca,O sd Ad nd cd]) aa (xR aa.size hlow (hx.ext aa) (aK la J) (hy.ext aa) (aK ld J)) J (by kernel_rfl) fun _ _ r8 e7 dh=>?_)))))))))))
 obtain⟨_,_,rfl,⟨ah,Y,ae,X,o,h,E,D,rfl,ar,U⟩,rfl⟩:=r8
 refine mv 1 J (pu (v:= a9 ah Y ae X o h E D) J (pu (v:= no 0) J (bL [F0,S0,F0,S0] dh (am.ext e7).lt (fun _=>by kernel_rfl) J fun L _ F ap _ Z ch=>(so bC F [.bool ah,we Y ae X,.bool o,we h E D] ch ap J J J J fun _ G ag ci=>(mv 1 J (a7 (aD (sr (mv 1 J (aI J J J false (by decide) (a7 (aQ J (aY ?_)))))))))))))
 refine aO (sr (pf L 0 J (lo aA G (a5 ah Y ae X) J J J (cl (vs:= [O ah Y ae X]) ci (I5 ab ((ar.ext Z).updT F ag).zi (ar.le (aK Lp J))) J (by kernel_rfl) fun _ _ ck I M=>?_))))
 obtain rfl:=ck
 refine mv 1 J (a7 (aD (aD ?_)))
 by_cases h1:q=1
 ·refine dG bY 5 [] [Is (i5 L 2),Is (O o h E D),ZR w.heap.size (1),Is (no (bE q 1)),Is (AI)] [[],[0],[],[1,2],[3]] [[],[0],[],[0,1,2],[0,1,2,3]] rfl
   (aH J J (aE J J ?_) (aH J J (aE J J ?_) (aH J J (aE J J ?_) (aH J J (aE J J ?_) (aH J J (aE J J ?_) d9))))) ?_
  ·exact fun _ _=>aC (pf L 2 J (aG J aL J))
  ·exact fun _ df=>dk J J (aC (lo aA (G.ext (I.t df)) (a5 o h E D) J J J (aG J aL J)))
  ·intro _ dt
   have f:=M.trans dt
   refine aC (cl (vs:= [no 1]) f (lK (n:=1) f.size) J (by kernel_rfl) fun _ _ cv da V=>?_)
   obtain⟨_,_,_,_,rfl,dl⟩:=cv
   exact aG J da ⟨_,_,_,_,rfl,dl⟩
  ·intro _ bu
   have f:=M.trans bu
   refine dk J J (aT J J fun _ _ dw _ ct=>?_)
   obtain⟨du,cu,cj,cm,rfl,ai⟩:=dw
   have ai:=ai.ext ct
   refine aC (cl (vs:= [O o h E D,O du cu cj cm]) f (kS (((U.ext Z).updT F ag).ext (I.t bu)).zi (U.le (aK Lq J)) ai.zi (ai.le (a8 (show ln 1≤1 by decide+kernel) (by decide)))) J (by kernel_rfl) fun _ _ dr cz V=>?_)
   obtain rfl:=dr
   exact aG J cz rfl
  ·exact fun _ _=>dk J J (aC (aI J J J true (eP (kA.2 h1)) (aG J aL J)))
  ·intro _ de
   have f:=M.trans de
   refine dk J J (dk J J (aT J J fun _ _ dg _ cp=>?_))
   obtain⟨_,_,_,_,rfl,bd⟩:=dg
   have bd:=bd.ext cp
   refine dk J J (dk J J (aC (aX (dC (aO (aW J (sr (mv 3 J (a7 (aV (bR (aU [.string (aJ sp),I0] J ⟨rfl,rfl,AT⟩ ?_))))))))))))
   exact⟨_,rfl,⟨_,_,rfl,(show Value.string _= .string (aJ (lA p q)) by unfold lA;rw [if_pos h1,←ab]),rfl⟩,f⟩
 ·refine dG bY 5 [] [Is (i5 L 2),Is (O o h E D),ZR w.heap.size (1),Is (no (bE q 1)),Is (AS)] [[],[0],[],[1,2],[3]] [[],[0],[],[0,1,2],[0,1,2,3]] rfl
   (aH J J (aE J J ?_) (aH J J (aE J J ?_) (aH J J (aE J J ?_) (aH J J (aE J J ?_) (aH J J (aE J J ?_) d9))))) ?_
  ·exact fun _ _=>aC (pf L 2 J (aG J aL J))
  ·exact fun _ dm=>dk J J (aC (lo aA (G.ext (I.t dm)) (a5 o h E D) J J J (aG J aL J)))
  ·intro _ bw
   have f:=M.trans bw
   refine aC (cl (vs:= [no 1]) f (lK (n:=1) f.size) J (by kernel_rfl) fun _ _ bj aq V=>?_)
   obtain⟨_,_,_,_,rfl,bh⟩:=bj
   exact aG J aq ⟨_,_,_,_,rfl,bh⟩
  ·intro _ ak
   have f:=M.trans ak
   refine dk J J (aT J J fun _ _ au _ av=>?_)
   obtain⟨bm,bo,bi,ba,rfl,H⟩:=au
   have H:=H.ext av
   refine aC (cl (vs:= [O o h E D,O bm bo bi ba]) f (kS (((U.ext Z).updT F ag).ext (I.t ak)).zi (U.le (aK Lq J)) H.zi (H.le (a8 (show ln 1≤1 by decide+kernel) (by decide)))) J (by kernel_rfl) fun _ _ bf aw V=>?_)
   obtain rfl:=bf
   exact aG J aw rfl
  ·exact fun _ _=>dk J J (aC (aI J J J false (fA (fun e=>h1 (kA.1 e))) (aG J aL J)))
  ·intro _ W
   have f:=M.trans W
   refine dk J J (dk J J (aT J J fun _ _ az _ bg=>?_))
   obtain⟨_,_,_,_,rfl,aj⟩:=az
   have aj:=aj.ext bg
   refine dk J J (dk J J (aC (aX (dC (aO (aQ J (aY (aO (sr (mv 1 J (nB J J J (r:= .string (aJ (sp++([47])))) J (fun w=>sQ (a:=sp) (b:= [47]) (by simp only [fU,eN,List.length_nil];omega)) (pf L 2 J (lo aA (G.ext (I.t W)) (a5 o h E D) J J J ?_)))))))))))))
   refine cl (vs:= [O o h E D]) f (I5 ao (((U.ext Z).updT F ag).ext (I.t W)).zi (U.le (aK Lq J))) J (by kernel_rfl) fun _ _ bp _ V=>?_
   obtain rfl:=bp
   refine nB J J J (r:= .string (aJ ((sp++([47]))++sq))) J (fun w=>sQ (a:=sp++([47])) (b:=sq) (by simp only [fU,eN,List.length_nil];omega)) (mv 2 J (a7 (aV (aU [.string (aJ ((sp++([47]))++sq)),I0] J ⟨rfl,rfl,AT⟩ ?_))))
   exact⟨_,rfl,⟨_,_,rfl,(show Value.string _= .string (aJ (lA p q)) by unfold lA;rw [if_neg h1,←ab,←ao]),rfl⟩,V⟩
theorem T1 {nd:Nat}(hx:Zi w sa Aa na ca x)(la:na≤1048576)(hy:Zi w sd Ad nd cd y)(ld:nd≤1048576)(h0:y=0):aP aN 89 #[a9 sa Aa na ca sd Ad nd cd] w (Gv w (T2 (ZR w.heap.size 0) (Is (no 4)))):=by
 have Lx:ln x≤1048576:=a8 hx.ln la
 have Ly:ln y≤1048576:=a8 hy.ln ld
 refine bN Tryz.func89 J (n:=62) J (bq J) (args:= [a9 sa Aa na ca sd Ad nd cd]) (bG [(0,a9 sa Aa na ca sd Ad nd cd)] ⟨rfl,AT⟩ (sr (bx [.bool sa,we Aa na ca,.bool sd,we Ad nd cd] (Ext.refl w) J J J fun g1 _ f _ _ ag=>(bL [F0,S0] ag f.lt (fun _=>by kernel_rfl) J fun _ _ H M _ e8 e=>(mv 1 J (a7 (sr (pf g1 0 J (lo aA (f.ext e8) (a5 sa Aa na ca) J J J (pf g1 2 J (lo aA (f.ext e8) (a5 sd Ad nd cd) J J J (cl (vs:= [O sa Aa na ca,O sd Ad nd cd]) e (C3 e.size h0 (hx.ext e) (aK la J) (hy.ext e) (aK ld J)) J (by kernel_rfl) fun _ _ ae G X=>?_))))))))))))
 obtain⟨_,_,rfl,⟨q,h,p,F,o,V,U,r,rfl,_,_⟩,rfl⟩:=ae
 refine mv 1 J (pu (v:= a9 q h p F o V U r) J (pu (v:= no 4) J (bL [F0,S0,F0,S0] X (H.ext G).lt (fun _=>by kernel_rfl) J fun _ _ E L _ aa Y=>(so bC E [.bool q,we h p F,.bool o,we V U r] Y L J J J J fun _ _ Z W=>(mv 1 J (a7 (aD (sr (mv 1 J (aI J J J true (by decide) (a7 (aW J (aD ?_)))))))))))))
 refine aF (pu (v:= .agg #[F0,S0]) J (mv 1 J ?_))
 have D:=((H.ext (G.t aa)).vN Z)
 refine so aA D [F0,S0] W M J J J J fun _ I _ ab=>(mv 1 J (a7 (aV (bR (aU [.agg #[F0,S0],no 4] J ⟨⟨_,rfl,bH aA I [F0,S0] J (bq J) rfl⟩,rfl,AT⟩ ?_)))))
 exact⟨_,rfl,⟨_,_,rfl,⟨_,_,_,_,rfl,Zr.zero⟩,rfl⟩,ab⟩
theorem T4 {nd:Nat}(hx:Zi w sa Aa na ca x)(la:na≤1048576)(hy:Zi w sd Ad nd cd y)(ld:nd≤1048576)(hlow:Low p q x y):aP aN 89 #[a9 sa Aa na ca sd Ad nd cd] w (Gv w (T2 (ZR w.heap.size (iK p q)) (Is (no 0)))):=by
 have Lx:ln x≤1048576:=a8 hx.ln la
 have Ly:ln y≤1048576:=a8 hy.ln ld
 have Lp:ln p≤1048576:=a8 (dZ hlow.np) Lx
 have Lq:ln q≤1048576:=a8 (dZ hlow.nq) Ly
 have X:=hlow.pos
 refine bN Tryz.func89 J (n:=62) J (bq J) (args:= [a9 sa Aa na ca sd Ad nd cd]) (bG [(0,a9 sa Aa na ca sd Ad nd cd)] ⟨rfl,AT⟩ (sr (bx [.bool sa,we Aa na ca,.bool sd,we Ad nd cd] (Ext.refl w) J J J fun g1 _ ir _ _ oi=>(bL [F0,S0] oi ir.lt (fun _=>by kernel_rfl) J fun _ _ dx df _ e8 fi=>(mv 1 J (a7 (sr (pf g1 0 J (lo aA (ir.ext e8) (a5 sa Aa na ca) J J J (pf g1 2 J (lo aA (ir.ext e8) (a5 sd Ad nd cd) J J J (cl (vs:= [O sa Aa na ca,O sd Ad nd cd]) fi (xR fi.size hlow (hx.ext fi) (aK la J) (hy.ext fi) (aK ld J)) J (by kernel_rfl) fun _ _ pe dw ph=>?_))))))))))))
 obtain⟨_,_,rfl,⟨fo,fd,fk,fp,ck,cj,ci,bw,rfl,lh,fe⟩,rfl⟩:=pe
 refine mv 1 J (pu (v:= a9 fo fd fk fp ck cj ci bw) J (pu (v:= no 0) J (bL [F0,S0,F0,S0] ph (dx.ext dw).lt (fun _=>by kernel_rfl) J fun fg _ da nz _ ch og=>(so bC da [.bool fo,we fd fk fp,.bool ck,we cj ci bw] og nz J J J J fun _ dg cp nj=>(mv 1 J (a7 (aD (sr (mv 1 J (aI J J J false (by decide) (a7 (aQ J (aY ?_)))))))))))))
 refine aO (sr (pf fg 0 J (lo aA dg (a5 fo fd fk fp) J J J (pf fg 2 J (lo aA dg (a5 ck cj ci bw) J J J (dQ J J (vs:= [O fo fd fk fp,O ck cj ci bw]) (by kernel_rfl) (by decide) (by have h:=CR nj.size ((lh.ext ch).updT da cp).zi (lh.le (aK Lp J)) ((fe.ext ch).updT da cp).zi (fe.le (aK Lq J));rw [show eZ q=0 from if_neg (by omega)] at h;exact h) ?_))))))
 rintro _ _ ⟨_,rfl,pk,bj⟩
 refine dR ?_
 have ov:=nj.trans bj
 obtain⟨_,_,_,rfl,⟨H,L,M,U,rfl,bd⟩,⟨au,bh,av,bp,rfl,fm⟩,rfl⟩:=pk
 refine mv 1 J (pu (v:= O H L M U) J (pu (v:= O au bh av bp) J (pu (v:= no 0) J (bL [F0,S0] ov (dg.ext bj).lt (fun _=>by kernel_rfl) J fun _ _ gy dt _ ag pq=>(bL [F0,S0] pq gy.lt (fun _=>by kernel_rfl) J fun nw _ kq jd _ ab pd=>?_)))))
 have Z:=(gy.ext ab)
 refine so aA Z (a5 H L M U) pd dt J J J J fun _ ah aa oo=>?_
 have ae:=(kq.vN aa)
 refine so aA ae (a5 au bh av bp) oo jd J J J J fun _ ct G dy=>(mv 1 J (a7 (aD ?_)))
 have ou:ln (rF p q+rF p q)≤1048577:=a8 (dN (lZ X Lq) (lZ X Lq)) (by decide)
 refine dG bY 6 [] [Is (O au bh av bp),Is (O au bh av bp),ZR w.heap.size (rF p q+rF p q),Is (i5 fg 2),Is (O ck cj ci bw),Is (no (bE (rF p q+rF p q) q))] [[],[],[0,1],[],[3],[2,4]] [[],[],[0,1],[],[3],[0,1,2,3,4],[0,1,2,3,4,5]] rfl
  (aH J J (aE J J ?_) (aH J J (aE J J ?_) (aH J J (aE J J ?_) (aH J J (aE J J ?_) (aH J J (aE J J ?_) (aH J J (aE J J ?_) d9)))))) ?_
 ·exact fun _ pg=>aC (lo aA (ct.ext pg) (a5 au bh av bp) J J J (aG J aL J))
 ·exact fun _ oz=>aC (lo aA (ct.ext oz) (a5 au bh av bp) J J J (aG J aL J))
 ·intro _ ik
  have V:=dy.trans ik
  refine dk J J (dk J J (aC ?_))
  have qj:ln (rF p q+rF p q)≤1048577:=a8 (dN (lZ X Lq) (lZ X Lq)) (by decide)
  refine cl (vs:= [O au bh av bp,O au bh av bp]) V (oO V.size ((((fm.ext (ag.t ab)).updT Z aa).updT ae G).ext ik).zi (fm.le (a8 (lZ X Lq) (by decide))) ((((fm.ext (ag.t ab)).updT Z aa).updT ae G).ext ik).zi (fm.le (a8 (lZ X Lq) (by decide)))) J (by kernel_rfl) fun _ _ oh po Y=>?_
  obtain⟨_,_,_,_,rfl,oq⟩:=oh
  exact aG J po ⟨_,_,_,_,rfl,oq⟩
 ·exact fun _ _=>aC (pf fg 2 J (aG J aL J))
 ·exact fun _ om=>dk J J (aC (lo aA ((((dg.ext (bj.t (ag.t ab))).vN aa).vN G).ext om) (a5 ck cj ci bw) J J J (aG J aL J)))
 ·intro _ kt
  have V:=dy.trans kt
  refine aT J J fun _ _ ow _ oy=>?_
  obtain⟨pj,ot,ox,pm,rfl,fj⟩:=ow
  have fj:=fj.ext oy
  refine dk J J (aC (cl (vs:= [O pj ot ox pm,O ck cj ci bw]) V (kS fj.zi (fj.le (aK ou J)) ((((((fe.ext ch).updT da cp).ext (bj.t (ag.t ab))).updT Z aa).updT ae G).ext kt).zi (fe.le (aK Lq J))) J (by kernel_rfl) fun _ _ nm iy Y=>?_))
  obtain rfl:=nm
  exact aG J iy rfl
 ·intro gc f
  have V:=dy.trans f
  refine dk J J (dk J J (aT J J fun _ _ mg _ kg=>?_))
  obtain⟨_,_,_,_,rfl,gi⟩:=mg
  have gi:=gi.ext kg
  refine dk J J (dk J J (dk J J (aC (mv 1 J (aX (dC (aO (aD ?_))))))))
  have qh:ln (qF p q/2)≤1048577:=CO (jU X Lp)
  refine yZ bY 9 [4,5,6] [7,8] [Is (O H L M U),ZR w.heap.size (2),T3 (ZR w.heap.size (qF p q/2)) (ZR w.heap.size (qF p q%2)) (Is (no 0)),T3 (ZR w.heap.size (qF p q/2)) (ZR w.heap.size (qF p q%2)) (Is (no 0)),ZR w.heap.size (qF p q/2),ZR w.heap.size (qF p q%2),Is (no 0),PR gc.heap.size 24 [F0,S0],PR gc.heap.size 24 [F0,S0]] [[],[],[0,1],[2],[3],[3],[3],[],[]] [[],[],[0,1],[0,1,2],[0,1,2,3],[0,1,2,3],[0,1,2,3],[],[],[0,1,2,3,4,7,8],[0,1,2,3,4,5,7,8,9],[0,1,2,3,4,5,6,7,8,9,10]] J J ⟨fun _ _ h=>PR.old h,fun _ _ h=>PR.old h,AT⟩
   (aH J J (aE J J ?_) (aH J J (aE J J ?_) (aH J J (aE J J ?_) (aH J J (aE J J ?_) (fD J J (fE J ?_) (fD J J (fE J ?_) (fD J J (fE J ?_) (aH J J (tK J ?_) (aH J J (tK J ?_) d9))))))))) ?_
  ·exact fun _ mi=>aC (lo aA ((ah.vN G).ext (f.t mi)) (a5 H L M U) J J J (aG J aL J))
  ·intro _ my
   have Y:=V.trans my
   refine aC (cl (vs:= [no 2]) Y (lK (n:=2) Y.size) J (by kernel_rfl) fun _ _ jg kw fb=>?_)
   obtain⟨_,_,_,_,rfl,mn⟩:=jg
   exact aG J kw ⟨_,_,_,_,rfl,mn⟩
  ·intro _ ge
   have Y:=V.trans ge
   refine dk J J (aT J J fun _ _ nu _ nl=>?_)
   obtain⟨jh,mz,kf,nc,rfl,cz⟩:=nu
   have cz:=cz.ext nl
   refine aC ?_
   have qe:ln (qF p q/2)≤1048577:=CO (jU X Lp)
   refine cl (vs:= [O H L M U,O jh mz kf nc]) Y (CQ Y.size ((((bd.ext (ag.t ab)).updT Z aa).updT ae G).ext (f.t ge)).zi (bd.le (a8 (jU X Lp) (by decide))) cz.zi (cz.le (a8 (show ln 2≤1 by decide+kernel) (by decide))) (by decide)) J (by kernel_rfl) fun _ _ jw lm fb=>?_
   obtain⟨_,_,_,rfl,⟨_,_,_,_,rfl,oe⟩,⟨_,_,_,_,rfl,kr⟩,rfl⟩:=jw
   exact aG J lm ⟨_,_,_,rfl,⟨_,_,_,_,rfl,oe⟩,⟨_,_,_,_,rfl,kr⟩,rfl⟩
  ·intro _ _
   refine aT J J fun _ _ lw _ fx=>?_
   obtain⟨_,_,_,rfl,⟨_,_,_,_,rfl,ei⟩,⟨_,_,_,_,rfl,ej⟩,rfl⟩:=lw
   have ei:=ei.ext fx
   have ej:=ej.ext fx
   refine aC (mv 1 J ?_)
   exact aG J aL ⟨_,_,_,rfl,⟨_,_,_,_,rfl,ei⟩,⟨_,_,_,_,rfl,ej⟩,rfl⟩
  ·intro _ _
   refine aT J J fun _ _ oa _ fy=>?_
   obtain⟨_,_,_,rfl,⟨mt,ks,jr,ka,rfl,ef⟩,⟨_,_,_,_,rfl,ia⟩,rfl⟩:=oa
   have ef:=ef.ext fy
   have ia:=ia.ext fy
   refine aC ?_
   exact⟨O mt ks jr ka,rfl,rfl,fun _=>by kernel_rfl,⟨_,_,_,_,rfl,ef⟩⟩
  ·intro _ _
   refine aT J J fun _ _ mr _ gb=>?_
   obtain⟨_,_,_,rfl,⟨_,_,_,_,rfl,fz⟩,⟨ny,jj,mh,li,rfl,dh⟩,rfl⟩:=mr
   have fz:=fz.ext gb
   have dh:=dh.ext gb
   refine aC ?_
   exact⟨O ny jj mh li,rfl,rfl,fun _=>by kernel_rfl,⟨_,_,_,_,rfl,dh⟩⟩
  ·intro _ _
   refine aT J J fun _ _ nk _ gn=>?_
   obtain⟨_,_,_,rfl,⟨_,_,_,_,rfl,go⟩,⟨_,_,_,_,rfl,gx⟩,rfl⟩:=nk
   have go:=go.ext gn
   have gx:=gx.ext gn
   refine aC ?_
   exact⟨no 0,rfl,rfl,fun _=>by kernel_rfl,rfl⟩
  ·intro _ mu
   refine aC (iH J (z:= .agg #[F0,S0]) (vs:= [F0,S0]) (fun _=>by kernel_rfl) J fun _ _ nb=>?_)
   exact aG J nb.ext ⟨⟨_,rfl,by rw [←nb.at_];exact mu.size,nb.bk⟩,_,rfl,Nat.le_of_eq nb.at_⟩
  ·intro _ mo
   refine aC (iH J (z:= .agg #[F0,S0]) (vs:= [F0,S0]) (fun _=>by kernel_rfl) J fun _ _ nb=>?_)
   exact aG J nb.ext ⟨⟨_,rfl,by rw [←nb.at_];exact mo.size,nb.bk⟩,_,rfl,Nat.le_of_eq nb.at_⟩
  ·intro _ E
   have Y:=V.trans E
   refine dk J J (aT J J fun _ _ jo _ kd=>?_)
   obtain⟨_,_,_,_,rfl,ig⟩:=jo
   have ig:=ig.ext kd
   refine aT J J fun _ _ ml _ gf=>?_
   obtain⟨_,_,_,rfl,⟨_,_,_,_,rfl,gk⟩,⟨_,_,_,_,rfl,ga⟩,rfl⟩:=ml
   have gk:=gk.ext gf
   have ga:=ga.ext gf
   refine aT J J fun _ _ ke _ fq=>?_
   obtain⟨_,_,_,rfl,⟨_,_,_,_,rfl,ib⟩,⟨_,_,_,_,rfl,ie⟩,rfl⟩:=ke
   have ib:=ib.ext fq
   have ie:=ie.ext fq
   refine aT J J fun _ _ nt _ mb=>?_
   obtain⟨ko,jv,jt,jy,rfl,fv⟩:=nt
   have fv:=fv.ext mb
   refine aT J J fun _ _ mc _ jb=>?_
   obtain⟨ba,bu,bf,aq,rfl,aj⟩:=mc
   have aj:=aj.ext jb
   refine dk J J (aT J J fun _ _ lp _ mj=>?_)
   obtain⟨el,rfl,ak,I⟩:=lp
   have I:=I.ext mj
   have pz:nw<el:=dJ (ct.ext f).lt ak
   have ak:w.heap.size≤el:=a8 V.size ak
   refine aT J J fun _ _ lz _ iz=>?_
   obtain⟨eg,rfl,am,cm⟩:=lz
   have cm:=cm.ext iz
   have py:nw<eg:=dJ (ct.ext f).lt am
   have am:w.heap.size≤eg:=a8 V.size am
   refine aC ?_
   intro dz
   have qg:eg≠el:=fun e=>dz 8 (by decide) 7 (by decide) (by decide) _ _ J J _ J (by rw [e];rfl)
   clear dz
   refine so aA I (a5 ko jv jt jy) Y ak J J J J fun _ _ o fb=>?_
   have W:=(cm.vN o)
   refine so aA W (a5 ba bu bf aq) fb am J J J J fun _ em r ai=>(mv 1 J (aX (dC (aO (aD (aD ?_))))))
   by_cases fh:0<bE (rF p q+rF p q) q
   ·refine aF (mv 1 J (aI J J J true (vK fh) (mv 8 J (pu (v:= AI) J (a7 (aW J ?_))))))
    have pr:ln (qF p q+1)≤1048577:=a8 (dN (jU X Lp) (show ln 1≤1 by decide+kernel)) (by decide)
    refine dG bY 3 [] [Is (O H L M U),ZR w.heap.size (1),ZR w.heap.size (qF p q+1)] [[],[],[0,1]] [[],[],[0,1],[0,1,2]] rfl
     (aH J J (aE J J ?_) (aH J J (aE J J ?_) (aH J J (aE J J ?_) d9))) ?_
    ·exact fun _ jz=>aC (lo aA (((((ah.vN G).ext (f.t E)).vN o).vN r).ext jz) (a5 H L M U) J J J (aG J aL J))
    ·intro _ ni
     have D:=ai.trans ni
     refine aC (cl (vs:= [no 1]) D (lK (n:=1) D.size) J (by kernel_rfl) fun _ _ jn md F=>?_)
     obtain⟨_,_,_,_,rfl,mf⟩:=jn
     exact aG J md ⟨_,_,_,_,rfl,mf⟩
    ·intro _ fw
     have D:=ai.trans fw
     refine dk J J (aT J J fun _ _ kn _ mq=>?_)
     obtain⟨nx,kv,ix,mx,rfl,cu⟩:=kn
     have cu:=cu.ext mq
     refine aC ?_
     have qi:ln (qF p q+1)≤1048577:=a8 (dN (jU X Lp) (show ln 1≤1 by decide+kernel)) (by decide)
     refine cl (vs:= [O H L M U,O nx kv ix mx]) D (oO D.size (((((((bd.ext (ag.t ab)).updT Z aa).updT ae G).ext (f.t E)).updT I o).updT W r).ext fw).zi (bd.le (a8 (jU X Lp) (by decide))) cu.zi (cu.le (a8 (show ln 1≤1 by decide+kernel) (by decide)))) J (by kernel_rfl) fun _ _ jp kb F=>?_
     obtain⟨_,_,_,_,rfl,ma⟩:=jp
     exact aG J kb ⟨_,_,_,_,rfl,ma⟩
    ·intro _ fc
     have D:=ai.trans fc
     refine dk J J (aT J J fun _ _ ji _ ll=>?_)
     obtain⟨_,_,_,_,rfl,gj⟩:=ji
     have gj:=gj.ext ll
     refine aT J J fun _ _ jc _ lu=>?_
     obtain⟨bo,ap,az,bm,rfl,eh⟩:=jc
     have eh:=eh.ext lu
     refine aC ?_
     have ey:=(((((ah.vN G).ext (f.t E)).vN o).vN r).ext fc)
     refine so aA ey (a5 bo ap az bm) D dt J J J J fun _ ij gr F=>(aX (dC (aO (sr (lo aA ij (a5 bo ap az bm) J J J ?_)))))
     have fa:=((((((((((dx.ext (dw.t ch)).vN cp).ext (bj.t (ag.t ab))).vN aa).vN G).ext (f.t E)).vN o).vN r).ext fc).vN gr)
     refine so aA fa (a5 bo ap az bm) F df J J J J fun _ iq kp ar=>(mv 1 J (a7 (aV (aU [O bo ap az bm,I0] J ⟨⟨_,rfl,bH aA iq (a5 bo ap az bm) J (bq J) rfl⟩,rfl,AT⟩ ?_))))
     exact⟨_,rfl,⟨_,_,rfl,⟨_,_,_,_,rfl,(((eh.updT ey gr).updT fa kp)).cast (show _=iK p q by unfold iK;rw [if_pos (cH fh)])⟩,rfl⟩,ar⟩
   ·by_cases hz:bE (rF p q+rF p q) q=0
    ·by_cases io:qF p q%2≠0
     ·refine aF (mv 1 J (aI J J J false (oN) (mv 2 J (aI J J J true (eP hz) (mv 1 J (lo aA em (a5 ba bu bf aq) J J J (cl (vs:= [O ba bu bf aq]) ai (eV ((aj.updT I o).updT W r).zi (aj.le (a8 (show ln (qF p q%2)≤1 from a8 (dZ (y:=1) (by omega)) (by decide+kernel)) (by decide)))) J (by kernel_rfl) fun _ _ jl cv D=>?_)))))))
      obtain rfl:=jl
      refine aI J J J true (nF (h:=(fun e=>io (kA.1 e)))) (pu (v:= AI) J (pu (v:= AI) J (a7 (aW J ?_))))
      have pt:ln (qF p q+1)≤1048577:=a8 (dN (jU X Lp) (show ln 1≤1 by decide+kernel)) (by decide)
      refine dG bY 3 [] [Is (O H L M U),ZR w.heap.size (1),ZR w.heap.size (qF p q+1)] [[],[],[0,1]] [[],[],[0,1],[0,1,2]] rfl
       (aH J J (aE J J ?_) (aH J J (aE J J ?_) (aH J J (aE J J ?_) d9))) ?_
      ·exact fun _ iw=>aC (lo aA (((((ah.vN G).ext (f.t E)).vN o).vN r).ext (cv.t iw)) (a5 H L M U) J J J (aG J aL J))
      ·intro _ jx
       have F:=D.trans jx
       refine aC (cl (vs:= [no 1]) F (lK (n:=1) F.size) J (by kernel_rfl) fun _ _ jf kk ar=>?_)
       obtain⟨_,_,_,_,rfl,ju⟩:=jf
       exact aG J kk ⟨_,_,_,_,rfl,ju⟩
      ·intro _ gg
       have F:=D.trans gg
       refine dk J J (aT J J fun _ _ kj _ kz=>?_)
       obtain⟨jm,ku,kx,ky,rfl,de⟩:=kj
       have de:=de.ext kz
       refine aC ?_
       have px:ln (qF p q+1)≤1048577:=a8 (dN (jU X Lp) (show ln 1≤1 by decide+kernel)) (by decide)
       refine cl (vs:= [O H L M U,O jm ku kx ky]) F (oO F.size (((((((bd.ext (ag.t ab)).updT Z aa).updT ae G).ext (f.t E)).updT I o).updT W r).ext (cv.t gg)).zi (bd.le (a8 (jU X Lp) (by decide))) de.zi (de.le (a8 (show ln 1≤1 by decide+kernel) (by decide)))) J (by kernel_rfl) fun _ _ lv lk ar=>?_
       obtain⟨_,_,_,_,rfl,mw⟩:=lv
       exact aG J lk ⟨_,_,_,_,rfl,mw⟩
      ·intro _ en
       have F:=D.trans en
       refine dk J J (aT J J fun _ _ jq _ me=>?_)
       obtain⟨_,_,_,_,rfl,ft⟩:=jq
       have ft:=ft.ext me
       refine aT J J fun _ _ mp _ kc=>?_
       obtain⟨aw,ao,bi,bg,rfl,dl⟩:=mp
       have dl:=dl.ext kc
       refine aC ?_
       have ez:=(((((ah.vN G).ext (f.t E)).vN o).vN r).ext (cv.t en))
       refine so aA ez (a5 aw ao bi bg) F dt J J J J fun _ im ic ar=>(aX (dC (aO (sr (lo aA im (a5 aw ao bi bg) J J J ?_)))))
       have ew:=((((((((((dx.ext (dw.t ch)).vN cp).ext (bj.t (ag.t ab))).vN aa).vN G).ext (f.t E)).vN o).vN r).ext (cv.t en)).vN ic)
       refine so aA ew (a5 aw ao bi bg) ar df J J J J fun _ iv ki ja=>(mv 1 J (a7 (aV (aU [O aw ao bi bg,I0] J ⟨⟨_,rfl,bH aA iv (a5 aw ao bi bg) J (bq J) rfl⟩,rfl,AT⟩ ?_))))
       exact⟨_,rfl,⟨_,_,rfl,⟨_,_,_,_,rfl,(((dl.updT ez ic).updT ew ki)).cast (show _=iK p q by unfold iK;rw [if_pos (cO ⟨hz,io⟩)])⟩,rfl⟩,ja⟩
     ·refine aF (mv 1 J (aI J J J false (oN) (mv 2 J (aI J J J true (eP hz) (mv 1 J (lo aA em (a5 ba bu bf aq) J J J (cl (vs:= [O ba bu bf aq]) ai (eV ((aj.updT I o).updT W r).zi (aj.le (a8 (show ln (qF p q%2)≤1 from a8 (dZ (y:=1) (by omega)) (by decide+kernel)) (by decide)))) J (by kernel_rfl) fun _ _ lj dr D=>?_)))))))
      obtain rfl:=lj
      refine aI J J J false (lI (kA.2 (by omega))) (pu (v:= AS) J (pu (v:= AS) J (a7 (aQ J (aY (aO (sr (lo aA (((((ah.vN G).ext (f.t E)).vN o).vN r).ext dr) (a5 H L M U) J J J ?_))))))))
      have du:=(((((((((dx.ext (dw.t ch)).vN cp).ext (bj.t (ag.t ab))).vN aa).vN G).ext (f.t E)).vN o).vN r).ext dr)
      refine so aA du (a5 H L M U) D df J J J J fun _ il je F=>(mv 1 J (a7 (aV (aU [O H L M U,I0] J ⟨⟨_,rfl,bH aA il (a5 H L M U) J (bq J) rfl⟩,rfl,AT⟩ ?_))))
      exact⟨_,rfl,⟨_,_,rfl,⟨_,_,_,_,rfl,(((((((((bd.ext (ag.t ab)).updT Z aa).updT ae G).ext (f.t E)).updT I o).updT W r).ext dr).updT du je)).cast (show _=iK p q by unfold iK;rw [if_neg (fun h=>h.elim fh (fun h=>io h.2))])⟩,rfl⟩,F⟩
    ·refine aF (mv 1 J (aI J J J false (oN) (mv 2 J (aI J J J false (fA hz) (mv 4 J (pu (v:= AS) J (pu (v:= AS) J (a7 (aQ J (aY (aO (sr (lo aA ((((ah.vN G).ext (f.t E)).vN o).vN r) (a5 H L M U) J J J ?_)))))))))))))
     have dm:=((((((((dx.ext (dw.t ch)).vN cp).ext (bj.t (ag.t ab))).vN aa).vN G).ext (f.t E)).vN o).vN r)
     refine so aA dm (a5 H L M U) ai df J J J J fun _ iu jk D=>(mv 1 J (a7 (aV (aU [O H L M U,I0] J ⟨⟨_,rfl,bH aA iu (a5 H L M U) J (bq J) rfl⟩,rfl,AT⟩ ?_))))
     exact⟨_,rfl,⟨_,_,rfl,⟨_,_,_,_,rfl,((((((((bd.ext (ag.t ab)).updT Z aa).updT ae G).ext (f.t E)).updT I o).updT W r).updT dm jk)).cast (show _=iK p q by unfold iK;rw [if_neg (fun h=>h.elim fh (fun h=>hz h.1))])⟩,rfl⟩,D⟩
def tW (P:bW)(n:Nat)(ol:List bD)(vs:List aM)(w0:a6)(dss:List (List Nat))(l:Fr):List Nat→Prop
 | []=>True
 | i::r=>(match ol[i]? with
  | some o=>∀w,Ext w0 w→gS P n (dfr ol vs l (cF dss i)) o w (.value ((vs[i]?).getD undef)) w
  | none=>True)∧tW P n ol vs w0 dss l r
def TwB (ol:List bD)(T:aS)(zs us:List aM)(j s:Nat)(w0:a6)(listed:Array Bool)(a:Act)(w:a6)(g:Nat):Prop:=
 listed.getD j false=true→iI a (cQ ol j)= i5 g 0∧w0.heap.size≤g∧Bk w g T (if listed.getD s false=true then us else zs)
def TwI (n:Nat)(ol:List bD)(l:Fr)(vs:List aM)(T:aS)(zs us1 us2:List aM)(j1 s1 j2 s2:Nat)(w0:a6)(listed:Array Bool)(a:Act)(w:a6):Prop:=
 Rp n l a∧Ext w0 w∧(∀i,i<ol.length→i≠j1→i≠j2→listed.getD i false=true→∀d,cQ ol i=some d→a.tmps.getD d undef=(vs[i]?).getD undef)∧
 ∃g1 g2,TwB ol T zs us1 j1 s1 w0 listed a w g1∧TwB ol T zs us2 j2 s2 w0 listed a w g2∧(listed.getD j1 false=true→listed.getD j2 false=true→g1≠g2)
def q9 (P:bW)(n:Nat)(ol:List bD)(vs:List aM)(w0:a6)(l:Fr)(T:aS)(zs us:List aM)(j s k:Nat):Prop:=
 match ol[s]? with
 | some o=>∀w g,Ext w0 w→Bk w g T zs→∃w',gS P n (mN (cQ ol j) (.pointer (some ⟨g,0,none⟩)) (mN (cQ ol k) ((vs[k]?).getD undef) l)) o w .skip w'∧Bk w' g T us∧Upd g w w'
 | none=>False
def q6 (P:bW)(n:Nat)(ol:List bD)(l:Fr)(T:aS)(zs:List aM)(j:Nat):Prop:=
 match ol[j]? with
 | some o=>∀w,gS P n l o w (.value (.pointer (some ⟨w.heap.size,0,none⟩))) (w.alloc (.cells zs.toArray T))
 | none=>False
def BB (N:Nat)(dss rl:List (List Nat))(j1 s1 k1 j2 s2 k2:Nat)(is:List Nat):Bool:=
 (gE N).all (fun i=>i==j1||i==j2||i==s1||i==s2||is.contains i)&&(gE N).all (fun i=> !(cF dss i).contains j1&& !(cF dss i).contains j2)&&decide (j1<N)&&decide (j2<N)&&decide (k1<N)&&decide (k2<N)&&decide (s1<N)&&decide (s2<N)&&
 (cF rl s1).contains j1&&(cF rl s1).contains k1&&(cF rl s2).contains j2&&(cF rl s2).contains k2&&decide (j1≠j2)&&decide (s1≠s2)&&decide (j1≠s1)&&decide (j1≠s2)&&decide (j2≠s1)&&decide (j2≠s2)&&decide (k1≠j1)&&decide (k1≠j2)&&decide (k2≠j1)&&decide (k2≠j2)
section
variable {P:bW}{Q:Exit→Act→a6→Prop}{n:Nat}{ol:List bD}{vs:List aM}{w0 w:a6}{dss rl:List (List Nat)}{l:Fr}{ps:List (Nat×Nat)}{T:aS}{zs us1 us2:List aM}{j1 j2 s1 s2 k1 k2:Nat}{st:List Nat}{listed:Array Bool}{a:Act}
theorem TwI.swap (h:TwI n ol l vs T zs us1 us2 j1 s1 j2 s2 w0 listed a w):TwI n ol l vs T zs us2 us1 j2 s2 j1 s1 w0 listed a w:=by
 obtain⟨h1,h2,f,p,o,r,q,D⟩:=h
 exact⟨h1,h2,fun i hi h h'=>f i hi h' h,o,p,q,r,fun h h' e=>D h' h e.symm⟩
theorem FY (hk:DetOk n ol st l dss rl ps)(ho:ol[i]?=some o)(hd:o.dst=some d)(hij:i≠j)(v:aM):iI (a.put (some d) v) (cQ ol j)=iI a (cQ ol j):=by
 obtain⟨_,_,_,e⟩:=hk.val i o ho d hd
 refine uO ?_ v
 unfold cQ
 cases hoj:ol[j]? with
 | none=>intro h;cases h
 | some oj=>exact e j oj hoj (kH hij)
theorem TwB.far {s:Nat}(hk:DetOk n ol st l dss rl ps)(h:TwB ol T zs us j s w0 listed a w g)(ho:ol[i]?=some o)(hd:o.dst=some d)(hij:i≠j)(his:i≠s)(v:aM)(e:Ext w w'):TwB ol T zs us j s w0 (listed.setIfInBounds i true) (a.put (some d) v) w' g:=by
 intro hl
 rw [Go.getD_set_ne false hij] at hl
 obtain⟨h1,h2,f⟩:=h hl
 refine⟨(FY hk ho hd hij v).trans h1,h2,?_⟩
 rw [Go.getD_set_ne false his]
 exact f.ext e
theorem FD (hk:DetOk n ol st l dss rl ps)(h:∀i,i<ol.length→i≠j1→i≠j2→listed.getD i false=true→∀d,cQ ol i=some d→a.tmps.getD d undef=(vs[i]?).getD undef)(ho:ol[i]?=some o)(hd:o.dst=some d)(hs:a.tmps.size=n)(hv:i≠j1→i≠j2→v=(vs[i]?).getD undef):∀k,k<ol.length→k≠j1→k≠j2→(listed.setIfInBounds i true).getD k false=true→∀e,cQ ol k=some e→(a.put (some d) v).tmps.getD e undef=(vs[k]?).getD undef:=by
 intro k hk' h1 h2 hl e he
 obtain⟨_,p,_,_⟩:=hk.val i o ho d hd
 by_cases f:i=k
 ·subst f
  have q:cQ ol i=some d:=by unfold cQ;rw [ho];exact hd
  rw [q] at he
  cases he
  exact (qU hs p v).trans (hv h1 h2)
 ·rw [Go.getD_set_ne false f] at hl
  have:=FY (a:=a) hk ho hd f v
  rw [he] at this
  exact this.trans (h k hk' h1 h2 hl e he)
theorem TwI.val (hk:DetOk n ol st l dss rl ps)(h:TwI n ol l vs T zs us1 us2 j1 s1 j2 s2 w0 listed a w)(ho:ol[i]?=some o)(hd:o.dst=some d)(h1:i≠j1)(h2:i≠j2)(h3:i≠s1)(h4:i≠s2):TwI n ol l vs T zs us1 us2 j1 s1 j2 s2 w0 (listed.setIfInBounds i true) (a.put (some d) ((vs[i]?).getD undef)) w:=by
 obtain⟨hr,hx,r,E,F,D,q,e⟩:=h
 refine⟨hr.put_far (hk.val i o ho d hd).2.2.1 _,hx,FD hk r ho hd hr.size (fun _ _=>rfl),E,F,D.far hk ho hd h1 h3 _ (Ext.refl w),q.far hk ho hd h2 h4 _ (Ext.refl w),fun f p=>?_⟩
 rw [Go.getD_set_ne false h1] at f
 rw [Go.getD_set_ne false h2] at p
 exact e f p
theorem TwI.new (hk:DetOk n ol st l dss rl ps)(h:TwI n ol l vs T zs us1 us2 j1 s1 j2 s2 w0 listed a w)(ho:ol[j1]?=some o)(hd:o.dst=some d)(hs1:listed.getD s1 false=false)(h2:j1≠j2)(h3:j1≠s1)(h4:j1≠s2):TwI n ol l vs T zs us1 us2 j1 s1 j2 s2 w0 (listed.setIfInBounds j1 true) (a.put (some d) (i5 w.heap.size 0)) (w.alloc (.cells zs.toArray T)):=by
 obtain⟨hr,hx,p,_,q,_,e,_⟩:=h
 refine⟨hr.put_far (hk.val j1 o ho d hd).2.2.1 _,hx.alloc _,FD hk p ho hd hr.size (fun h _=>absurd J h),w.heap.size,q,fun _=>⟨?_,hx.size,?_⟩,e.far hk ho hd h2 h4 _ ((Ext.refl w).alloc _),fun _ f=>?_⟩
 ·have r:cQ ol j1=some d:=by unfold cQ;rw [ho];exact hd
  rw [r]
  exact qU hr.size (hk.val j1 o ho d hd).2.1 _
 ·rw [Go.getD_set_ne false h3,hs1]
  exact Bk.new w T zs
 ·rw [Go.getD_set_ne false h2] at f
  have:=(e f).2.2.lt
  omega
theorem TwI.fill (h:TwI n ol l vs T zs us1 us2 j1 s1 j2 s2 w0 listed a w)(hj:listed.getD j1 false=true)(hg:iI a (cQ ol j1)= i5 g 0)(hb:Bk w' g T us1)(hu:Upd g w w')(hN:s1<listed.size)(h1:s1≠j1)(h2:s1≠j2)(h3:s1≠s2)(hd:cQ ol s1=none):TwI n ol l vs T zs us1 us2 j1 s1 j2 s2 w0 (listed.setIfInBounds s1 true) a w':=by
 obtain⟨hr,hx,I,L,H,G,F,p⟩:=h
 obtain⟨o,E,_⟩:=G hj
 have r:g=L:=by
  rw [hg] at o
  injection o with o
  injection o with o
  injection o
 subst r
 refine⟨hr,hu.ext hx E,fun i hi D f hl d hd'=>?_,g,H,fun _=>⟨o,E,?_⟩,fun f=>?_,fun D f=>?_⟩
 ·by_cases q:s1=i
  ·subst q;rw [hd] at hd';cases hd'
  ·rw [Go.getD_set_ne false q] at hl
   exact I i hi D f hl d hd'
 ·rw [if_pos (by simp [hN])];exact hb
 ·rw [Go.getD_set_ne false h2] at f
  obtain⟨d1,d2,d3⟩:=F f
  rw [Go.getD_set_ne false h3]
  exact⟨d1,d2,d3.upd hu (fun e=>p hj f e.symm)⟩
 ·rw [Go.getD_set_ne false h2] at f
  exact p hj f
theorem OM (h:tW P n ol vs w0 dss l is):∀i∈is,∀o,ol[i]?=some o→∀w,Ext w0 w→gS P n (dfr ol vs l (cF dss i)) o w (.value ((vs[i]?).getD undef)) w:=by
 induction is with
 | nil=>intro i hi;cases hi
 | cons k r ih=>
  intro i hi o f
  rcases List.mem_cons.1 hi with e | e
  ·subst e
   have:=h.1
   rw [f] at this
   exact this
  ·exact ih h.2 i e o f
def MM (Q:Exit→Act→a6→Prop)(n:Nat)(ol:List bD)(vs:List aM)(l:Fr)(w0:a6)(T:aS)(us1 us2:List aM)(j1 j2:Nat)(is:List Nat):Prop:=
 ∀g1 g2 w,Ext w0 w→g1≠g2→w0.heap.size≤g1→w0.heap.size≤g2→Bk w g1 T us1→Bk w g2 T us2→eo Q .normal n (mN (cQ ol j1) (i5 g1 0) (mN (cQ ol j2) (i5 g2 0) (dfr ol vs l is))) w
theorem OZ (hk:DetOk n ol [s1,s2] l dss rl ps)(ht:BB ol.length dss rl j1 s1 k1 j2 s2 k2 is=true)(hj1:j1 ∉ is)(hj2:j2 ∉ is)(his:∀i∈is,i<ol.length)(hv:tW P n ol vs w0 dss l is)(hm1:q6 P n ol l T zs j1)(hm2:q6 P n ol l T zs j2)(hf1:q9 P n ol vs w0 l T zs us1 j1 s1 k1)(hf2:q9 P n ol vs w0 l T zs us2 j2 s2 k2)(hfin:MM Q n ol vs l w0 T us1 us2 j1 j2 is):∀(fuel:Nat) (listed:Array Bool) (a:Act) (w:a6),qO ol.length listed≤fuel→listed.size=ol.length→Closed ol listed→TwI n ol l vs T zs us1 us2 j1 s1 j2 s2 w0 listed a w→wpAny P .any ol.toArray Q fuel listed a w:=by
 simp only [BB,eK,decide_eq_true_eq,jR,ne_eq] at ht
 obtain⟨⟨⟨⟨⟨⟨⟨⟨⟨⟨⟨⟨⟨⟨⟨⟨⟨⟨⟨⟨⟨H,ae⟩,l1⟩,l2⟩,l3⟩,l4⟩,l5⟩,l6⟩,r1⟩,r2⟩,r3⟩,r4⟩,n1⟩,n2⟩,n3⟩,n4⟩,n5⟩,n6⟩,n7⟩,n8⟩,n9⟩,bj⟩:=ht
 rw [fV] at H ae
 have fin:∀(listed:Array Bool) (a:Act) (w:a6),(∀i,i<ol.length→listed.getD i false=true)→TwI n ol l vs T zs us1 us2 j1 s1 j2 s2 w0 listed a w→Q .normal a w:=by
  intro listed a w f h
  obtain⟨hr,hx,E,g1,g2,b1,b2,Z⟩:=h
  obtain⟨U,c2,W⟩:=b1 (f _ l1)
  obtain⟨d1,d2,d3⟩:=b2 (f _ l2)
  rw [if_pos (f _ l5)] at W
  rw [if_pos (f _ l6)] at d3
  have ar:Rp n (dfr ol vs l is) a:=hr.dfr is fun j M d q=>E j (his j M) (fun e=>hj1 (e▸M)) (fun e=>hj2 (e▸M)) (f j (his j M)) d q
  refine hfin g1 g2 w hx (Z (f _ l1) (f _ l2)) c2 d2 W d3 a ?_
  have key:∀{l':Fr}{j:Nat}{v:aM},Rp n l' a→iI a (cQ ol j)=v→Rp n (mN (cQ ol j) v l') a:=by
   intro l' j v h1 h2
   cases q:cQ ol j with
   | none=>exact h1
   | some d=>rw [q] at h2;exact h1.cons h2
  exact key (key ar d1) U
 intro fuel
 induction fuel with
 | zero=>
  intro listed a w hf hs D G
  have f:∀i,i<ol.length→listed.getD i false=true:=by
   intro i hi
   cases h:listed.getD i false with
   | true=>rfl
   | false=>have:=kJ hi hs h;omega
  refine⟨?_,fin listed a w f G⟩
  refine List.eq_nil_iff_forall_not_mem.2 fun j M=>?_
  obtain⟨h1,o,bg,_⟩:=j8.1 M
  have bp:j<ol.length:=(gY.1 bg).1
  rw [jC,f j bp] at h1
  cases h1
 | succ fuel ih=>
  intro listed a w hf hs D G
  refine⟨fun h0=>?_,fun i bd=>?_⟩
  ·refine fin listed a w (fun i hi=>?_) G
   have key:∀k,k≤ol.length→∀i,i<k→listed.getD i false=true:=by
    intro k
    induction k with
    | zero=>intro _ i hi;omega
    | succ k ihk=>
     intro hk' i hi
     have ih':=ihk (by omega)
     rcases i7 i k with h | h
     ·exact ih' i h
     ·have e:i=k:=by omega
      subst e
      cases hb:listed.getD i false with
      | true=>rfl
      | false=>
       have V:i∈Region.ready .any ol.toArray listed:=j8.2 ⟨by rw [jC];exact hb,_,cC (by omega),fun e he Y=>ih' _ (hk.back i _ (cC (by omega)) e he Y)⟩
       rw [h0] at V;cases V
   exact key ol.length (aZ _) i hi
  ·obtain⟨au,o,p,f⟩:=j8.1 bd
   have aa:i<ol.length:=(gY.1 p).1
   have hun':listed.getD i false=false:=by rw [←jC];exact au
   have r:=zF hk D i o p f
   have X:qA o (yielded ol.toArray a.tmps)=true:=by simp [qA,hk.guard i o p]
   have hu:=kJ aa hs hun'
   have notyet:∀s,s<ol.length→i∈cF rl s→listed.getD s false=false:=by
    intro s ag hm
    cases hb:listed.getD s false with
    | false=>rfl
    | true=>
     have:=zF hk D s _ (cC ag) (fun e he Y=>D s _ (cC ag) hb e he Y) i hm
     rw [hun'] at this;cases this
   have hr:=G.1
   have hx:=G.2.1
   have E:=G.2.2.1
   unfold wpOp
   rw [nP,p]
   simp only
   rw [if_pos X]
   refine cH ?_
   unfold Oper.wp
   have L:i≠s1→i≠s2→∃d,o.dst=some d:=fun e1 e2=>by
    cases q:o.dst with
    | none=>
     have:=hk.sto i o p q
     simp at this
     rcases this with h | h
     ·exact absurd h e1
     ·exact absurd h e2
    | some d=>exact⟨d,rfl⟩
   have I:i∈ [s1,s2]→o.dst=none:=fun hm=>by
    cases q:o.dst with
    | none=>rfl
    | some d=>exact absurd hm (hk.val i o p d q).1
   have putRp:∀{l':Fr}{k:Nat}{v:aM},Rp n l' a→(∀d,cQ ol k=some d→a.tmps.getD d undef=v)→Rp n (mN (cQ ol k) v l') a:=by
    intro l' k v h1 h2
    cases q:cQ ol k with
    | none=>exact h1
    | some d=>exact h1.cons (h2 d q)
   by_cases e1:i=j1
   ·subst e1
    obtain⟨d,q⟩:=L n3 n4
    unfold q6 at hm1
    rw [p] at hm1
    rw [hm1 w a hr]
    simp only [kG,q]
    exact ih _ _ _ (by omega) (by simpa using hs) (D.set p f) (G.new hk p q (notyet s1 l5 r1) n1 n3 n4)
   by_cases e2:i=j2
   ·subst e2
    obtain⟨d,q⟩:=L n5 n6
    unfold q6 at hm2
    rw [p] at hm2
    rw [hm2 w a hr]
    simp only [kG,q]
    exact ih _ _ _ (by omega) (by simpa using hs) (D.set p f) ((G.swap.new hk p q (notyet s2 l6 r3) (kH n1) n6 n5).swap)
   by_cases e3:i=s1
   ·subst e3
    have q:=I (by simp)
    unfold q9 at hf1
    rw [p] at hf1
    obtain⟨g1,g2,b1,b2,Z⟩:=G.2.2.2
    obtain⟨U,c2,W⟩:=b1 (r _ r1)
    rw [if_neg (by rw [hun'];exact Bool.false_ne_true)] at W
    obtain⟨w',h1,h2,h3⟩:=hf1 w _ hx W
    have ab:Rp n (mN (cQ ol k1) ((vs[k1]?).getD undef) l) a:=putRp hr fun d F=>E k1 l3 n7 n8 (r _ r2) d F
    rw [h1 a (putRp ab fun d F=>by rw [F] at U;exact U)]
    simp only [kG,q]
    exact ih _ _ _ (by omega) (by simpa using hs) (D.set p f) (G.fill (r _ r1) U h2 h3 (by omega) (kH n3) (kH n5) n2 (by unfold cQ;rw [p];exact q))
   by_cases e4:i=s2
   ·subst e4
    have q:=I (by simp)
    unfold q9 at hf2
    rw [p] at hf2
    obtain⟨g1,g2,b1,b2,Z⟩:=G.2.2.2
    obtain⟨U,c2,W⟩:=b2 (r _ r3)
    rw [if_neg (by rw [hun'];exact Bool.false_ne_true)] at W
    obtain⟨w',h1,h2,h3⟩:=hf2 w _ hx W
    have ab:Rp n (mN (cQ ol k2) ((vs[k2]?).getD undef) l) a:=putRp hr fun d F=>E k2 l4 n9 bj (r _ r4) d F
    rw [h1 a (putRp ab fun d F=>by rw [F] at U;exact U)]
    simp only [kG,q]
    exact ih _ _ _ (by omega) (by simpa using hs) (D.set p f) ((G.swap.fill (r _ r3) U h2 h3 (by omega) (kH n6) (kH n4) (kH n2) (by unfold cQ;rw [p];exact q)).swap)
   have ai:i∈is:=by
    have:=H i (iT.2 aa)
    simp only [Bool.or_eq_true,beq_iff_eq,jR] at this
    rcases this with (((h | h) | h) | h) | h
    ·exact absurd h e1
    ·exact absurd h e2
    ·exact absurd h e3
    ·exact absurd h e4
    ·exact h
   obtain⟨d,q⟩:=L e3 e4
   have hnd':=ae i (iT.2 aa)
   simp only [eK,AN] at hnd'
   have ah:Rp n (dfr ol vs l (cF dss i)) a:=hr.dfr _ fun j M d q=>by
    have h1:=hk.deps i o p j M
    have h2:=(hk.reach i o p j h1).1
    refine E j (by omega) (fun e=>?_) (fun e=>?_) (r j h1) d q
    ·subst e;rw [jR.2 M] at hnd';exact absurd hnd'.1 (by simp)
    ·subst e;rw [jR.2 M] at hnd';exact absurd hnd'.2 (by simp)
   rw [OM hv i ai o p w hx a ah]
   simp only [kG,q]
   exact ih _ _ _ (by omega) (by simpa using hs) (D.set p f) (G.val hk p q e1 e2 e3 e4)
theorem LJ (hmix:P.follows .mixedOrders=true)(T:aS)(zs us1 us2:List aM)(j1 s1 k1 j2 s2 k2:Nat)(vs:List aM)(is:List Nat)(dss rl:List (List Nat))(ps:List (Nat×Nat))(hk:yU n ol [s1,s2] l dss rl ps=true)(ht:(BB ol.length dss rl j1 s1 k1 j2 s2 k2 is&& !is.contains j1&& !is.contains j2&&is.all (fun i=>decide (i<ol.length)))=true)(hm1:q6 P n ol l T zs j1)(hm2:q6 P n ol l T zs j2)(hf1:q9 P n ol vs w l T zs us1 j1 s1 k1)(hf2:q9 P n ol vs w l T zs us2 j2 s2 k2)(hv:tW P n ol vs w dss l is)(hfin:MM Q n ol vs l w T us1 us2 j1 j2 is):cw P Q n (.region id ol.toArray true) l w:=fun a q=>by
 refine wp_region_any hmix ?_
 simp only [eK,AN,fV,decide_eq_true_eq] at ht
 obtain⟨⟨⟨h1,h2⟩,p⟩,D⟩:=ht
 have f:(pA ol.toArray.size false).size=ol.length:=by simp
 have e:∀i,(pA ol.toArray.size false).getD i false=false:=by
  intro i
  simp only [Array.getD_eq_getD_getElem?,Array.getElem?_replicate]
  split <;> rfl
 have r:TwI n ol l vs T zs us1 us2 j1 s1 j2 s2 w (pA ol.toArray.size false) a w.drew:=by
  refine⟨q,(Ext.refl w).drew,?_,0,0,?_,?_,?_⟩
  ·intro i _ _ _ h;rw [e] at h;cases h
  ·intro h;rw [e] at h;cases h
  ·intro h;rw [e] at h;cases h
  ·intro h;rw [e] at h;cases h
 refine OZ (LE hk) h1 (fun h=>by rw [jR.2 h] at h2;cases h2) (fun h=>by rw [jR.2 h] at p;cases p) D hv hm1 hm2 hf1 hf2 hfin ol.toArray.size _ a _ ?_ f (fun i o _ h=>by rw [e] at h;cases h) r
 refine a8 List.countP_le_length ?_
 simp
theorem pE (ho:ol[i]?=some o)(hv:(vs[i]?).getD undef=v)(hacc:dfr ol vs l (cF dss i)=acc)(h:∀w,Ext w0 w→gS P n acc o w (.value v) w)(h':tW P n ol vs w0 dss l is):tW P n ol vs w0 dss l (i::is):=by
 refine⟨?_,h'⟩
 rw [ho]
 simp only
 rw [hv,hacc]
 exact h
theorem y9 {z:aM}(ho:ol[j]?=some ⟨some d,.alloc T,ty,pos,af,none⟩)(hz:∀w,(zeroValue T).run P w= .ok z w)(hv:z.cells=zs.toArray):q6 P n ol l T zs j:=by
 unfold q6
 rw [ho]
 intro w a _
 have e:(AM T true (.tuple #[])).run P w= .ok (i5 w.heap.size 0) (w.alloc (.cells zs.toArray T)):=by
  show ((zeroValue T>>=fun z=>(newVar T z>>=fun r=>pure (wG (some r))):Sem aM)).run P w=_
  rw [cE,hz w]
  show ((newVar T z>>=fun r=>pure (wG (some r)):Sem aM)).run P w=_
  rw [cE,BR hv];rfl
 show ((AM T true (.tuple #[])>>=fun r=>pure (Next.value r):Sem Next)).run P w=_
 rw [cE,e];rfl
theorem yO {s k dj dk:Nat}{x y:Operand}(ho:ol[s]?=some ⟨none,.store T x y,ty,pos,af,none⟩)(hj:cQ ol j=some dj)(hkk:cQ ol k=some dk)(hval:(vs[k]?).getD undef= .agg us.toArray)(hx:∀v u,bV ((dj,v)::(dk,u)::l) x=some v)(hy:∀v u,bV ((dj,v)::(dk,u)::l) y=some u)(hT:AggT P T K)(hlen:us.length=K)(hz:zs.length=K)(h1:us.all (·.oneCell')=true):q9 P n ol vs w0 l T zs us j s k:=by
 unfold q9
 rw [ho]
 intro w g _ hb
 obtain⟨w',hr,e,f,_⟩:=iJ (P:=P) hT hlen hb (off:=0) (by omega) h1 us (by unfold jA;rw [List.take_zero,List.nil_append,eJ,hlen,←hz,List.drop_length,mF])
 refine⟨w',?_,e,f⟩
 rw [hj,hkk,hval]
 exact iA (hx _ _) (hy _ _) hr
end
def eQ (x y:Int):Int:=if y<0 then-x else x
def eH (y:Int):Int:=if y<0 then-y else y
theorem pX (h:y≠0):0<eH y:=by unfold eH;split <;> omega
theorem JO:ln (eQ x y)=ln x:=by unfold eQ;split;(· rw [g0]);(· rfl)
theorem yF:ln (eH y)=ln y:=by unfold eH;split;(· rw [g0]);(· rfl)
theorem DY {m:Nat}(h:(wd m).length≤n):cV m≤64*n:=by
 refine rW ?_
 have h1:=lY m
 have h2:m<WB^n:=dJ h1 (eS gC h)
 rw [lQ] at h2
 rw [Nat.pow_mul]
 exact h2
def LRF (K b lb:Nat)(zs:List Int)(v:aM)(w:a6):Prop:=∃A cap,v= we A zs.length cap∧Lz none K b w lb A zs.length cap zs
theorem XG (hb:b≤w.heap.size){m:Nat}(hx:Zi w s A n cap x)(hl:n≤68719476736)(hy:Zi w t B m cap' y)(hl':m≤68719476736)(h0:0<y):aP aN 149 #[O s A n cap,O t B m cap'] w (Gv w (T3 (ZR b (x/y)) (ZR b (x%y)) (Is (no 0)))):=by
 refine (KG hb hx hl hy hl' (by omega)).mono fun e w' h=>?_
 obtain⟨q,r,h1,h2⟩:=h
 have D:=h1.eq
 have p:=h1.pos h0
 obtain⟨o,f⟩:=(Int.ediv_emod_unique (b:=y) h0).2 ⟨show r+y*q=x by rw [Int.mul_comm];omega,p⟩
 rw [o,f];exact h2
theorem XH {nd:Nat}(hx:Zi w sa Aa na ca x)(la:na≤1048576)(hy:Zi w sd Ad nd cd y)(ld:nd≤1048576)(h0:y=0):aP aN 104 #[a9 sa Aa na ca sd Ad nd cd] w (Gv w (T2 (Is (we none 0 0)) (Is (no 4)))):=by
 have Lx:ln x≤1048576:=a8 hx.ln la
 have Ly:ln y≤1048576:=a8 hy.ln ld
 refine bN Tryz.func104 J (n:=41) J (bq J) (args:= [a9 sa Aa na ca sd Ad nd cd]) (bG [(0,a9 sa Aa na ca sd Ad nd cd)] ⟨rfl,AT⟩ (sr (bx [.bool sa,we Aa na ca,.bool sd,we Ad nd cd] (Ext.refl w) J J J fun o _ h _ _ r=>(mv 2 J (a7 (aD (bG [(0,a9 sa Aa na ca sd Ad nd cd),(1,i5 o 0),(2,we none 0 0),(3,no 0)] ⟨rfl,rfl,rfl,rfl,AT⟩ (LJ bY 24 [F0,S0] (a5 sa Aa na ca) (a5 sd Ad nd cd) 4 6 1 5 7 3 [i5 o 0,O sa Aa na ca,i5 o 2,O sd Ad nd cd,undef,undef,undef,undef] [0,1,2,3] [[],[0],[],[2],[],[],[],[]] [[],[0],[],[2],[],[],[0,1,4,5],[0,1,2,3,4,5,6]] [(0,0),(0,1),(0,2),(1,0),(1,1),(1,2),(2,0),(2,1),(2,2),(3,0),(3,1),(3,2),(4,0),(4,1),(4,2),(5,0),(5,1),(5,2),(6,0),(6,1),(6,2),(7,0),(7,1),(7,2)] J J (y9 J (z:= .agg #[F0,S0]) (fun _=>by kernel_rfl) J) (y9 J (z:= .agg #[F0,S0]) (fun _=>by kernel_rfl) J) (yO J J J J (fun _ _=>rfl) (fun _ _=>rfl) aA J J J) (yO J J J J (fun _ _=>rfl) (fun _ _=>rfl) aA J J J) ?_ ?_))))))))
 ·refine pE J J J (fun _ _=>(pJ J)) (pE J J J (fun _ L=>(d7 J (bH aA (h.ext L) (a5 sa Aa na ca) J (bq J) J))) (pE J J J (fun _ _=>(pJ J)) (pE J J J (fun _ G=>(d7 J (bH aA (h.ext G) (a5 sd Ad nd cd) J (bq J) J))) ?_)))
  exact trivial
 ·intro p q _ F _ f e _ D
  have M:o<p:=dJ h.lt f
  have f:w.heap.size≤p:=a8 r.size f
  have U:o<q:=dJ h.lt e
  have e:w.heap.size≤q:=a8 r.size e
  have E:=r.trans F
  refine gG [(0,a9 sa Aa na ca sd Ad nd cd),(1,i5 o 0),(2,we none 0 0),(3,no 0),(10,i5 o 0),(11,O sa Aa na ca),(12,i5 o 2),(13,O sd Ad nd cd),(4,i5 p 0),(5,i5 q 0)] ⟨rfl,rfl,rfl,rfl,rfl,rfl,rfl,rfl,rfl,rfl,AT⟩ (aO (aD (sr (lo aA D (a5 sd Ad nd cd) J J J (cl (vs:= [O sd Ad nd cd]) E (iE (hy.ext E) (aK ld J)) J (by kernel_rfl) fun _ _ H _ I=>?_)))))
  obtain rfl:=H
  refine aI J J J true (GB h0) (a7 (aW J (sr (mv 2 J (a7 (aV (bR (aU [S0,no 4] J ⟨rfl,rfl,AT⟩ ?_))))))))
  exact⟨_,rfl,⟨_,_,rfl,rfl,rfl⟩,I⟩
theorem XJ {nd:Nat}(hx:Zi w sa Aa na ca x)(la:na≤1048576)(hy:Zi w sd Ad nd cd y)(ld:nd≤1048576)(h0:y≠0):aP aN 104 #[a9 sa Aa na ca sd Ad nd cd] w (Gv w (T2 (LRF 1048579 w.heap.size w.heap.size (dD (eQ x y) (eH y))) (Is (no 0)))):=by
 have Lx:ln x≤1048576:=a8 hx.ln la
 have Ly:ln y≤1048576:=a8 hy.ln ld
 refine bN Tryz.func104 J (n:=41) J (bq J) (args:= [a9 sa Aa na ca sd Ad nd cd]) (bG [(0,a9 sa Aa na ca sd Ad nd cd)] ⟨rfl,AT⟩ (sr (bx [.bool sa,we Aa na ca,.bool sd,we Ad nd cd] (Ext.refl w) J J J fun g1 _ dw _ _ ap=>(mv 2 J (a7 (aD (bG [(0,a9 sa Aa na ca sd Ad nd cd),(1,i5 g1 0),(2,we none 0 0),(3,no 0)] ⟨rfl,rfl,rfl,rfl,AT⟩ (LJ bY 24 [F0,S0] (a5 sa Aa na ca) (a5 sd Ad nd cd) 4 6 1 5 7 3 [i5 g1 0,O sa Aa na ca,i5 g1 2,O sd Ad nd cd,undef,undef,undef,undef] [0,1,2,3] [[],[0],[],[2],[],[],[],[]] [[],[0],[],[2],[],[],[0,1,4,5],[0,1,2,3,4,5,6]] [(0,0),(0,1),(0,2),(1,0),(1,1),(1,2),(2,0),(2,1),(2,2),(3,0),(3,1),(3,2),(4,0),(4,1),(4,2),(5,0),(5,1),(5,2),(6,0),(6,1),(6,2),(7,0),(7,1),(7,2)] J J (y9 J (z:= .agg #[F0,S0]) (fun _=>by kernel_rfl) J) (y9 J (z:= .agg #[F0,S0]) (fun _=>by kernel_rfl) J) (yO J J J J (fun _ _=>rfl) (fun _ _=>rfl) aA J J J) (yO J J J J (fun _ _=>rfl) (fun _ _=>rfl) aA J J J) ?_ ?_))))))))
 ·refine pE J J J (fun _ _=>(pJ J)) (pE J J J (fun _ e9=>(d7 J (bH aA (dw.ext e9) (a5 sa Aa na ca) J (bq J) J))) (pE J J J (fun _ _=>(pJ J)) (pE J J J (fun _ im=>(d7 J (bH aA (dw.ext im) (a5 sd Ad nd cd) J (bq J) J))) ?_)))
  exact trivial
 ·intro ae ab _ il _ bo bu du aw
  have kn:g1<ae:=dJ dw.lt bo
  have bo:w.heap.size≤ae:=a8 ap.size bo
  have kj:g1<ab:=dJ dw.lt bu
  have bu:w.heap.size≤ab:=a8 ap.size bu
  have bd:=ap.trans il
  refine gG [(0,a9 sa Aa na ca sd Ad nd cd),(1,i5 g1 0),(2,we none 0 0),(3,no 0),(10,i5 g1 0),(11,O sa Aa na ca),(12,i5 g1 2),(13,O sd Ad nd cd),(4,i5 ae 0),(5,i5 ab 0)] ⟨rfl,rfl,rfl,rfl,rfl,rfl,rfl,rfl,rfl,rfl,AT⟩ (aO (aD (sr (lo aA aw (a5 sd Ad nd cd) J J J (cl (vs:= [O sd Ad nd cd]) bd (iE (hy.ext bd) (aK ld J)) J (by kernel_rfl) fun _ _ io bp ci=>?_)))))
  obtain rfl:=io
  refine aI J J J false (qW h0) (a7 (aQ J (aY (aO (rU (T:=a6×ZC×ZC) (fun⟨wr,k4,k5⟩=> [(4,i5 ae 0),(5,i5 ab 0)]) (fun⟨wr,k4,k5⟩=>wr) (fun⟨wr,k4,k5⟩=>(Ext w wr)∧(Bk wr ae 24 (a5 k4.s k4.A k4.n k4.c))∧(Bk wr ab 24 (a5 k5.s k5.A k5.n k5.c))∧(El (some w) w.heap.size wr k4 (eQ x y))∧(El (some w) w.heap.size wr k5 (eH y))∧(k4.n≤1048576)∧(k5.n≤1048576)) ?_ ?_)))))
  ·refine aD ?_
   by_cases bm:y<0
   ·have fk: -x=eQ x y:=by unfold eQ;rw [if_pos bm]
    have ft: -y=eH y:=by unfold eH;rw [if_pos bm]
    refine aF (lo aA (aw.ext bp) (a5 sd Ad nd cd) J J J (cl (vs:= [O sd Ad nd cd]) ci (iE (hy.ext ci) (aK ld J)) J (by kernel_rfl) fun _ _ ir ei bj=>?_))
    obtain rfl:=ir
    refine aI J J J true (sW bm) (a7 (aW J ?_))
    have ik:ln (-x)≤1048576:=(by rw [g0];exact Lx)
    have jt:ln (-y)≤1048576:=(by rw [g0];exact Ly)
    refine dG bY 4 [] [Is (O sa Aa na ca),ZR w.heap.size (-x),Is (O sd Ad nd cd),ZR w.heap.size (-y)] [[],[0],[],[2]] [[],[0],[],[0,1,2],[0,1,2,3],[0,1,2,3,4]] rfl
     (aH J J (aE J J ?_) (aH J J (aE J J ?_) (aH J J (aE J J ?_) (aH J J (aE J J ?_) d9)))) ?_
    ·exact fun _ jq=>aC (lo aA (du.ext (bp.t (ei.t jq))) (a5 sa Aa na ca) J J J (aG J aL J))
    ·intro _ je
     have ar:=bj.trans je
     refine dk J J (aC ?_)
     have kf:ln (-x)≤1048576:=(by rw [g0];exact Lx)
     refine cl (vs:= [O sa Aa na ca]) ar (vL ar.size (hx.ext ar) (aK la J)) J (by kernel_rfl) fun _ _ ju nJ da=>?_
     obtain⟨_,_,_,_,rfl,jr⟩:=ju
     exact aG J nJ ⟨_,_,_,_,rfl,jr⟩
    ·exact fun _ jh=>aC (lo aA (aw.ext (bp.t (ei.t jh))) (a5 sd Ad nd cd) J J J (aG J aL J))
    ·intro _ ix
     have ar:=bj.trans ix
     refine dk J J (aC ?_)
     have ki:ln (-y)≤1048576:=(by rw [g0];exact Ly)
     refine cl (vs:= [O sd Ad nd cd]) ar (vL ar.size (hy.ext ar) (aK ld J)) J (by kernel_rfl) fun _ _ iw ji da=>?_
     obtain⟨_,_,_,_,rfl,jk⟩:=iw
     exact aG J ji ⟨_,_,_,_,rfl,jk⟩
    ·intro _ fw
     have ar:=bj.trans fw
     refine dk J J (aT J J fun _ _ jc _ jb=>?_)
     obtain⟨ia,gk,fz,gj,rfl,dz⟩:=jc
     have dz:=dz.ext jb
     refine dk J J (aT J J fun _ _ jl _ jm=>?_)
     obtain⟨gn,gf,ie,ga,rfl,em⟩:=jl
     have em:=em.ext jm
     refine aC ?_
     have dt:=(du.ext (bp.t (ei.t fw)))
     refine so aA dt (a5 ia gk fz gj) ar bo J J J J fun _ gi fv da=>?_
     have dl:=((aw.ext (bp.t (ei.t fw))).vN fv)
     refine so aA dl (a5 gn gf ie ga) da bu J J J J fun jz gr fp ej=>(aX (dC (dO (⟨jz,⟨ia,gk,fz,gj⟩,⟨gn,gf,ie,ga⟩⟩:a6×ZC×ZC) ⟨ej,(gi.vN fp),gr,(fk▸(cH ((dz.updT dt fv).updT dl fp))),(ft▸(cH ((em.updT dt fv).updT dl fp))),(dz.le (aK ik J)),(em.le (aK jt J))⟩ J ⟨rfl,rfl,AT⟩)))
   ·have fk:x=eQ x y:=by unfold eQ;rw [if_neg bm]
    have ft:y=eH y:=by unfold eH;rw [if_neg bm]
    refine aF (lo aA (aw.ext bp) (a5 sd Ad nd cd) J J J (cl (vs:= [O sd Ad nd cd]) ci (iE (hy.ext ci) (aK ld J)) J (by kernel_rfl) fun _ jf iv fB bj=>?_))
    obtain rfl:=iv
    refine aI J J J false (sX) (a7 (aQ J (aY (dO (⟨jf,⟨sa,Aa,na,ca⟩,⟨sd,Ad,nd,cd⟩⟩:a6×ZC×ZC) ⟨bj,(du.ext (bp.t fB)),(aw.ext (bp.t fB)),(fk▸(cO ⟨_,rfl,cH hx⟩)),(ft▸(cO ⟨_,rfl,cH hy⟩)),(aK la J),(aK ld J)⟩ J ⟨rfl,rfl,AT⟩))))
  ·rintro⟨wr,k4,k5⟩ ⟨ap,b_4,b_5,iq,jv,jo,jp⟩
   refine cR [(4,i5 ae 0),(5,i5 ab 0)] wr J ⟨rfl,rfl,AT⟩ (sr (mv 1 J (a7 (aD (bO ?_)))))
   have kk:(dD (eQ x y) (eH y)).length≤200000000:=a8 (DR _ _ (Int.le_of_lt (pX h0))) (by have:=DY (m:=(eH y).natAbs) (n:=1048576) (by have h:=Ly;rw [←yF] at h;exact h);omega)
   obtain⟨az,dy,_,el,_,_⟩:∃lb,lb≤wr.heap.size∧wr.heap.size≤lb∧w.heap.size≤lb∧ae<lb∧ab<lb:=⟨wr.heap.size,aZ _,aZ _,ap.size,b_4.lt,b_5.lt⟩
   refine d8 (T:=a6×Int×Int×List Int×Option aB×Nat×Nat×ZC×ZC)
    (fun⟨ah,nn,dd,pre,LA,Z,lc,n4,f⟩=> [(4,i5 ae 0),(5,i5 ab 0),(6,we LA Z lc)])
    (fun⟨ah,nn,dd,pre,LA,Z,lc,n4,f⟩=>ah)
    (fun⟨ah,nn,dd,pre,LA,Z,lc,n4,f⟩=>(Ext w ah)∧(pre++dD nn dd=dD (eQ x y) (eH y))∧(0≤dd)∧(ln nn≤1048577)∧(ln dd≤1048577)∧(Lz none 1048579 w.heap.size ah az LA Z lc pre)∧(az≤ah.heap.size)∧(Bk ah ae 24 (a5 n4.s n4.A n4.n n4.c))∧(Bk ah ab 24 (a5 f.s f.A f.n f.c))∧(El (some w) w.heap.size ah n4 nn)∧(El (some w) w.heap.size ah f dd)∧(n4.n≤1048577)∧(f.n≤1048577))
    (fun⟨ah,nn,dd,pre,LA,Z,lc,n4,f⟩=>dd.toNat)
    (⟨wr,eQ x y,eH y,[],none,0,0,⟨k4.s,k4.A,k4.n,k4.c⟩,⟨k5.s,k5.A,k5.n,k5.c⟩⟩:a6×Int×Int×List Int×Option aB×Nat×Nat×ZC×ZC) ⟨ap,(by rw [List.nil_append]),(Int.le_of_lt (pX h0)),(a8 (by rw [JO];exact Lx) (by decide)),(a8 (by rw [yF];exact Ly) (by decide)),(Lz.nil none 1048579 w.heap.size wr az),dy,b_4,b_5,iq,jv,(aK jo J),(aK jp J)⟩ J ⟨rfl,rfl,rfl,AT⟩ ?_
   rintro⟨ah,nn,dd,pre,LA,Z,lc,n4,f⟩ ⟨ap,hI,_,jw,fx,bf,fc,b_4,b_5,ja,ef,jg,eg⟩
   refine cR [(4,i5 ae 0),(5,i5 ab 0),(6,we LA Z lc)] ah J ⟨rfl,rfl,rfl,AT⟩ ?_
   have dx:=bf.block
   have iu:=bf.len
   have ko:Z≤200000000:=by have h:=congrArg List.length hI;rw [fU] at h;omega
   have de:∀p,LA=some p→p.block≠ae:=fun p hp=>by have:=bf.block p hp;omega
   have ck:∀p,LA=some p→p.block≠ab:=fun p hp=>by have:=bf.block p hp;omega
   refine aD (aD ?_)
   by_cases iy:dd≠0
   ·have eh:0<dd:=by omega
    refine aF (lo aA b_5 (a5 f.s f.A f.n f.c) J J J (cl (vs:= [O f.s f.A f.n f.c]) ap (iE (ef.zi ap) (aK eg J)) J (by kernel_rfl) fun _ _ go o bd=>?_))
    obtain rfl:=go
    refine aI J J J true (lT iy) (a7 (aW J (aY (aO (bO (sr (lo aA (b_4.ext o) (a5 n4.s n4.A n4.n n4.c) J J J (lo aA (b_5.ext o) (a5 f.s f.A f.n f.c) J J J (cl (vs:= [O n4.s n4.A n4.n n4.c,O f.s f.A f.n f.c]) bd (XG bd.size ((ja.ext o).zi bd) (aK jg J) ((ef.ext o).zi bd) (aK eg J) eh) J (by kernel_rfl) fun _ _ gy H ci=>?_)))))))))
    obtain⟨_,_,_,rfl,⟨X,U,W,V,rfl,ez⟩,⟨D,r,F,E,rfl,ew⟩,rfl⟩:=gy
    refine mv 1 J (pu (v:= O X U W V) J (pu (v:= O D r F E) J (pu (v:= no 0) J (iH J (z:= .agg #[F0,S0]) (vs:= [F0,S0]) (fun _=>by kernel_rfl) J fun ao _ nb=>?_))))
    have cv:=nb.bk
    have fg:w.heap.size≤ao:=by rw [←nb.at_];exact ci.size
    have kb:ae<ao:=by rw [←nb.at_];exact (b_4.ext (o.t H)).lt
    have ka:ab<ao:=by rw [←nb.at_];exact (b_5.ext (o.t H)).lt
    have cj:∀p,LA=some p→p.block≠ao:=fun p hp=>by have:=((bf.ext (o.t H))).block p hp;have:=nb.at_;omega
    have I:=nb.ext
    clear nb
    have bj:=ci.trans I
    refine iH J (z:= .agg #[F0,S0]) (vs:= [F0,S0]) (fun _=>by kernel_rfl) J fun au _ nb=>?_
    have fq:=nb.bk
    have fi:w.heap.size≤au:=by rw [←nb.at_];exact bj.size
    have kd:ao<au:=by rw [←nb.at_];exact cv.lt
    have am:∀p,LA=some p→p.block≠au:=fun p hp=>by have:=((bf.ext (o.t (H.t I)))).block p hp;have:=nb.at_;omega
    have G:=nb.ext
    clear nb
    have ar:=bj.trans G
    have ag:=(cv.ext G)
    refine so aA ag (a5 X U W V) ar fg J J J J fun _ dh M da=>?_
    have ai:=(fq.vN M)
    refine so aA ai (a5 D r F E) da fi J J J J fun _ bh L ej=>(mv 1 J (a7 (sr (mv 1 J (lo aA (dh.vN L) (a5 X U W V) J J J (iO J J (k:=1) (e:=24) (a5 X U W V) (fun _=>by kernel_rfl) fun bw _ nb=>?_))))))
    have dm:=nb.bk
    have jy:w.heap.size≤bw:=by rw [←nb.at_];exact ej.size
    have ke:au<bw:=by rw [←nb.at_];exact bh.lt
    have fm:∀p,LA=some p→p.block≠bw:=fun p hp=>by have:=((((bf.ext (o.t (H.t (I.t G)))).updT ag M cj).updT ai L am)).block p hp;have:=nb.at_;omega
    have q:=nb.ext
    clear nb
    have jj:=ej.trans q
    have dg:=((((bf.ext (o.t (H.t (I.t G)))).updT ag M cj).updT ai L am).ext q)
    obtain⟨_,cm⟩:=dg.own
    refine F7 (e:=⟨X,U,W,V⟩) (z:=nn/dd) J J J dg (a8 (a8 (a8 (a8 (a8 (a8 (a8 fc o.size) H.size) I.size) G.size) M.by_.size) L.by_.size) q.size) dm (cH ((((ez.ext (I.t G)).updT ag M).updT ai L).ext q)) (ez.le (a8 (JL eh jw (by decide)) (by decide))) (by omega) (by decide) fun ch bi df cz Y aq=>?_
    have iz:=Y.ext jj (fun p hp=>by have:=dx p hp;omega)
    have ct:az≤df.heap.size:=a8 (a8 (a8 (a8 (a8 (a8 (a8 (a8 fc o.size) H.size) I.size) G.size) M.by_.size) L.by_.size) q.size) Y.size
    have fj:=nH aq ((((b_4.ext (o.t (H.t (I.t G)))).vN M).vN L).ext q).lt de
    have fh:=nH aq ((((b_5.ext (o.t (H.t (I.t G)))).vN M).vN L).ext q).lt ck
    have jd:=nH aq ((dh.vN L).ext q).lt cj
    have jx:=nH aq (bh.ext q).lt am
    have jn:=nH aq dm.lt fm
    have ij:=cz.block
    refine mv 1 J (a7 (bG [(4,i5 ae 0),(5,i5 ab 0),(6,we ch (Z+1) bi),(24,O f.s f.A f.n f.c),(25,no (bE dd 0)),(26,AI),(28,O n4.s n4.A n4.n n4.c),(29,O f.s f.A f.n f.c),(30,.tuple #[O X U W V,O D r F E,I0]),(27,.tuple #[O X U W V,O D r F E,I0]),(31,O X U W V),(32,O D r F E),(33,no 0),(7,i5 ao 0),(8,i5 au 0),(9,no 0),(34,we LA Z lc),(35,O X U W V),(36,we (some ⟨bw,0,none⟩) 1 1),(37,we ch (Z+1) bi)] ⟨rfl,rfl,rfl,rfl,rfl,rfl,rfl,rfl,rfl,rfl,rfl,rfl,rfl,rfl,rfl,rfl,rfl,rfl,rfl,rfl,AT⟩ ?_))
    obtain⟨en,hv,aa⟩:∃v,v=df.drew∧Ext df v:=⟨_,rfl,aL.drew⟩
    have ge:=iz.trans aa
    have bg:=((((((b_4.ext (o.t (H.t (I.t G)))).vN M).vN L).ext q).updO Y de).ext aa)
    obtain⟨ig,fd,fe,ak,_⟩:=iJ (P:=aN) (us:= (a5 f.s f.A f.n f.c)) (off:=0) aA J bg (bq J) J (a5 f.s f.A f.n f.c) rfl
    have ic:=ak.ext ge bo
    have ba:=(((((((b_5.ext (o.t (H.t (I.t G)))).vN M).vN L).ext q).updO Y ck).ext aa).vN ak)
    obtain⟨fb,fy,fo,av,_⟩:=iJ (P:=aN) (us:= (a5 D r F E)) (off:=0) aA J ba (bq J) J (a5 D r F E) rfl
    have gc:=av.ext ic bu
    refine gX bY (w:=en) [O f.s f.A f.n f.c,O D r F E,undef,undef] [en,ig,fb] [2,3] [[],[],[0],[1]] [[],[],[0],[0,1,2]] [(0,0),(1,0),(1,1),(2,0),(3,1)] J hv ?_ ?_
    ·refine bA _ J J J J J (d7 J (bH aA ((((((b_5.ext (o.t (H.t (I.t G)))).vN M).vN L).ext q).updO Y ck).ext aa) (a5 f.s f.A f.n f.c) J (bq J) J)) (bA _ J J J J J (d7 J (bH aA (((bh.ext q).updO Y am).ext aa) (a5 D r F E) J (bq J) J)) (bA _ J J J J J (d7 J (bH aA ((((bh.ext q).updO Y am).ext aa).vN ak) (a5 D r F E) J (bq J) J)) (iR _ J J J J J (iA J J fd) (iR _ J J J J J (iA J J fy) ?_))))
     exact gW
    clear hv
    refine gG [(4,i5 ae 0),(5,i5 ab 0),(6,we ch (Z+1) bi),(24,O f.s f.A f.n f.c),(25,no (bE dd 0)),(26,AI),(28,O n4.s n4.A n4.n n4.c),(29,O f.s f.A f.n f.c),(30,.tuple #[O X U W V,O D r F E,I0]),(27,.tuple #[O X U W V,O D r F E,I0]),(31,O X U W V),(32,O D r F E),(33,no 0),(7,i5 ao 0),(8,i5 au 0),(9,no 0),(34,we LA Z lc),(35,O X U W V),(36,we (some ⟨bw,0,none⟩) 1 1),(37,we ch (Z+1) bi),(38,O f.s f.A f.n f.c),(39,O D r F E)] ⟨rfl,rfl,rfl,rfl,rfl,rfl,rfl,rfl,rfl,rfl,rfl,rfl,rfl,rfl,rfl,rfl,rfl,rfl,rfl,rfl,rfl,rfl,AT⟩ (bQ (cM (⟨fb,dd,nn%dd,pre++ [nn/dd],ch,Z+1,bi,⟨f.s,f.A,f.n,f.c⟩,⟨D,r,F,E⟩⟩:a6×Int×Int×List Int×Option aB×Nat×Nat×ZC×ZC) ⟨gc,(by rw [List.append_assoc,←hI,kT eh];rfl),(j0 _ (by omega)),fx,(a8 (a8 (rH) fx) (by decide)),(((cz.ext aa).updT bg ak fj).updT ba av fh),(a8 (a8 (a8 ct aa.size) ak.by_.size) av.by_.size),(fe.vN av),fo,((((((((ef.ext (o.t (H.t (I.t G)))).updT ag M).updT ai L).ext q).updOT cm Y).ext aa).updT bg ak).updT ba av),(cH ((((((((ew.ext (I.t G)).updT ag M).updT ai L).ext q).updOT cm Y).ext aa).updT bg ak).updT ba av)),(aK eg J),(ew.le (a8 (a8 (rH) fx) (by decide)))⟩ (show (nn%dd).toNat<dd.toNat by have h1:=k9 nn eh;omega) J ⟨rfl,rfl,rfl,AT⟩))
   ·have gg:dd=0:=by omega
    rw [gg,nL,mF] at hI
    refine aF (lo aA b_5 (a5 f.s f.A f.n f.c) J J J (cl (vs:= [O f.s f.A f.n f.c]) ap (iE (ef.zi ap) (aK eg J)) J (by kernel_rfl) fun _ _ ib gx bd=>?_))
    obtain rfl:=ib
    refine aI J J J false (lC (by omega)) (a7 (aQ J (d4 (cU (cY (cZ (aO (sr (mv 3 J (a7 (aV (aU [we LA Z lc,I0] J ⟨rfl,rfl,AT⟩ ?_))))))))))))
    have ey:=((bf.ext gx)).mono (aZ _) (aZ _) el
    rw [hI] at ey
    have hn:Z=(dD (eQ x y) (eH y)).length:=by rw [←hI];exact iu.symm
    subst hn
    exact⟨_,rfl,⟨_,_,rfl,⟨_,_,rfl,ey⟩,rfl⟩,bd⟩
theorem LRF.imp {b' lb:Nat}(hb:b≤b')(h:LRF K b' lb zs v w):LRF K b lb zs v w:=by
 obtain⟨A,c,h1,h2⟩:=h
 exact⟨A,c,h1,h2.mono (aZ _) hb (aZ _)⟩
theorem XI (hb:b≤w.heap.size){nd:Nat}(hx:Zi w sa Aa na ca x)(la:na≤1048576)(hy:Zi w sd Ad nd cd y)(ld:nd≤1048576)(hzs:zs=dD (eQ x y) (eH y))(h0:y≠0):aP aN 104 #[a9 sa Aa na ca sd Ad nd cd] w (Gv w (T2 (LRF 1048579 b w.heap.size zs) (Is (no 0)))):=by
 subst hzs
 exact (XJ hx la hy ld h0).mono (Gv.imp (T2.imp (fun _ _ h=>h.imp hb) Is.imp))
theorem JE (h0:y≠0):Low (nd (dD (eQ x y) (eH y))).1 (nd (dD (eQ x y) (eH y))).2 x y:=by
 obtain⟨g,hg,h1,h2⟩:=DQ (eQ x y) (eH y) (Int.le_of_lt (pX h0)) (cH (pX h0))
 have F:=pX h0
 generalize hp:(nd (dD (eQ x y) (eH y))).1=p at*
 generalize hq:(nd (dD (eQ x y) (eH y))).2=q at*
 have f:0<q:=by
  refine Int.lt_of_not_ge fun h=>?_
  have:g*q≤g*0:=Int.mul_le_mul_of_nonneg_left h (by omega)
  omega
 have r:p.natAbs≤(eQ x y).natAbs:=by rw [h1,Int.natAbs_mul];exact Nat.le_mul_of_pos_left _ (by omega)
 have D:q.natAbs≤(eH y).natAbs:=by rw [h2,Int.natAbs_mul];exact Nat.le_mul_of_pos_left _ (by omega)
 have o:(eQ x y).natAbs=x.natAbs:=by unfold eQ;split <;> omega
 have E:(eH y).natAbs=y.natAbs:=by unfold eH;split <;> omega
 refine⟨f,by rw [←hp,←hq];exact xW _,?_,by omega,by omega⟩
 have e:p*eH y=eQ x y*q:=by rw [h1,h2];grind
 unfold eQ eH at e
 by_cases hn:y<0
 ·rw [if_pos hn,if_pos hn] at e
  rw [Int.mul_neg,Int.neg_mul] at e;omega
 ·rw [if_neg hn,if_neg hn] at e;exact e
theorem ZV (h0:y≠0)(Lx:ln x≤1048576)(Ly:ln y≤1048576)(hzs:zs=dD (eQ x y) (eH y)):mS zs∧zs.length≤200000000∧0<zs.length∧zs.getD 0 0=eQ x y/eH y∧(1<zs.length→1<zs.getD (zs.length-1) 0)∧(∀k,ln (nd (zs.drop k)).1≤2097150∧ln (nd (zs.drop k)).2≤2097150)∧Low (nd zs).1 (nd zs).2 x y:=by
 have r:=pX h0
 have e:=kT (n:=eQ x y) r
 have o:=JE (x:=x) h0
 rw [←hzs] at o
 have q:zs.length≤200000000:=by
  rw [hzs]
  refine a8 (DR _ _ (Int.le_of_lt r)) ?_
  have h:=Ly
  rw [←yF] at h
  have:=DY (m:=(eH y).natAbs) (n:=1048576) h
  omega
 have f:0<zs.length:=by rw [hzs,e,eN];omega
 have p:∀i,1≤i→i<zs.length→0<zs.getD i 0:=fun i h1 h2=>by
  have:=ZP (n:=eQ x y) r (zs.getD i 0) (by
   rw [←hzs]
   have F:zs.getD i 0=(zs.drop 1).getD (i-1) 0:=by
    rw [bK,bK,List.getElem?_drop,show 1+(i-1)=i by omega]
   rw [F]
   have hl:i-1<(zs.drop 1).length:=by rw [List.length_drop];omega
   rw [bK,cC hl]
   exact List.getElem_mem _)
  omega
 refine⟨⟨fun h=>(by rw [h] at f;cases f),p⟩,q,f,by rw [hzs,e];rfl,fun h1=>?_,fun k=>?_,o⟩
 ·rw [hzs,e,eN] at h1
  rw [hzs,e,eN,mC]
  have E:=j0 (eQ x y) (show eH y≠0 by omega)
  have hb:=k9 (eQ x y) r
  have hr:0<eQ x y%eH y:=by
   rcases Int.lt_or_eq_of_le E with h | h
   ·exact h
   ·rw [←h,nL] at h1;simp at h1
  have:=ZU (eH y) (eQ x y%eH y) E hr hb
  obtain⟨k,D⟩:∃k,(dD (eH y) (eQ x y%eH y)).length=k+1:=⟨(dD (eH y) (eQ x y%eH y)).length-1,by omega⟩
  rw [D,mC] at this
  rw [D]
  exact this
 ·rw [hzs]
  have:=ZT (n:=eQ x y) r (N:=1048576) (by rw [JO];exact Lx) (by rw [yF];exact Ly) k
  omega
theorem BK (h:0<z):cG .lss (bE z 0) 1=some false:=by
 have e:=qV.2 h
 simp only [cG,eB,decide_eq_false_iff_not];omega
theorem IA (hb:b≤w.heap.size){m:Nat}(hx:Zi w s A n cap x)(hl:n≤1048576)(hy:Zi w t B m cap' y)(hl':m≤1048576)(h0:0<y):aP aN 134 #[O s A n cap,O t B m cap'] w (Gv w (T3 (ZR b (x/y)) (ZR b (x%y)) (Is (no 0)))):=by
 have h:=CR hb hx hl hy hl'
 have hs:=yN (x:=x) (y:=y) (by omega)
 have o:=hs.eq
 obtain⟨e,f⟩:=(Int.ediv_emod_unique (b:=y) h0).2 ⟨show rF x y+y*qF x y=x by rw [Int.mul_comm];omega,hs.pos h0⟩
 rw [show eZ y=0 from if_neg (by omega)] at h
 rw [e,f];exact h
theorem ZQ {g:Int}(hg:0<g):∀n d:Int,0≤d→dD (g*n) (g*d)=dD n d:=by
 refine vS (P:=fun n d=>dD (g*n) (g*d)=dD n d) (fun n=>by rw [Int.mul_zero,nL,nL]) fun n d e ih=>?_
 rw [kT e,kT (Int.mul_pos hg e),Int.mul_ediv_mul_of_pos _ _ hg,Int.mul_emod_mul_of_pos _ _ hg,ih]
theorem LT (h:Low p q x y):dD p q=dD (eQ x y) (eH y):=by
 obtain⟨h0,o,r⟩:=yB h
 obtain⟨_,e,f⟩:=yB (JE (x:=x) h0)
 obtain⟨g,hg,h1,h2⟩:=DQ (eQ x y) (eH y) (Int.le_of_lt (pX h0)) (cH (pX h0))
 rw [e,←o] at h1
 rw [f,←r] at h2
 rw [h1,h2,ZQ hg p q (Int.le_of_lt h.pos)]
theorem T9 {nd:Nat}(hx:Zi w sa Aa na ca x)(la:na≤1048576)(hy:Zi w sd Ad nd cd y)(ld:nd≤1048576)(h0:y=0):aP aN 92 #[a9 sa Aa na ca sd Ad nd cd] w (Gv w (T2 (Is (we none 0 0)) (Is (no 4)))):=by
 have Lx:ln x≤1048576:=a8 hx.ln la
 have Ly:ln y≤1048576:=a8 hy.ln ld
 refine bN Tryz.func92 J (n:=44) J (bq J) (args:= [a9 sa Aa na ca sd Ad nd cd]) (bG [(0,a9 sa Aa na ca sd Ad nd cd)] ⟨rfl,AT⟩ (sr (bx [.bool sa,we Aa na ca,.bool sd,we Ad nd cd] (Ext.refl w) J J J fun U _ f _ _ e=>(mv 2 J (a7 (sr (pf U 0 J (lo aA f (a5 sa Aa na ca) J J J (pf U 2 J (lo aA f (a5 sd Ad nd cd) J J J (cl (vs:= [O sa Aa na ca,O sd Ad nd cd]) e (C3 e.size h0 (hx.ext e) (aK la J) (hy.ext e) (aK ld J)) J (by kernel_rfl) fun _ _ V W M=>?_)))))))))))
 obtain⟨_,_,rfl,⟨q,r,p,o,G,D,H,E,rfl,_,_⟩,rfl⟩:=V
 refine mv 1 J (pu (v:= a9 q r p o G D H E) J (pu (v:= no 4) J (bL [F0,S0,F0,S0] M (f.ext W).lt (fun _=>by kernel_rfl) J fun _ _ F h _ _ I=>(so bC F [.bool q,we r p o,.bool G,we D H E] I h J J J J fun _ _ _ L=>(mv 1 J (a7 (aD (sr (mv 1 J (aI J J J true (by decide) (a7 (aW J (aD ?_)))))))))))))
 refine aF (mv 3 J (a7 (aV (bR (aU [S0,no 4] J ⟨rfl,rfl,AT⟩ ?_)))))
 exact⟨_,rfl,⟨_,_,rfl,rfl,rfl⟩,L⟩
theorem TA {nd:Nat}(hx:Zi w sa Aa na ca x)(la:na≤1048576)(hy:Zi w sd Ad nd cd y)(ld:nd≤1048576)(hlow:Low p q x y):aP aN 92 #[a9 sa Aa na ca sd Ad nd cd] w (Gv w (T2 (LRF 1048579 w.heap.size w.heap.size (dD p q)) (Is (no 0)))):=by
 have Lx:ln x≤1048576:=a8 hx.ln la
 have Ly:ln y≤1048576:=a8 hy.ln ld
 have Lp:ln p≤1048576:=a8 (dZ hlow.np) Lx
 have Lq:ln q≤1048576:=a8 (dZ hlow.nq) Ly
 have iv:=hlow.pos
 refine bN Tryz.func92 J (n:=44) J (bq J) (args:= [a9 sa Aa na ca sd Ad nd cd]) (bG [(0,a9 sa Aa na ca sd Ad nd cd)] ⟨rfl,AT⟩ (sr (bx [.bool sa,we Aa na ca,.bool sd,we Ad nd cd] (Ext.refl w) J J J fun g1 _ de _ _ Y=>(mv 2 J (a7 (sr (pf g1 0 J (lo aA de (a5 sa Aa na ca) J J J (pf g1 2 J (lo aA de (a5 sd Ad nd cd) J J J (cl (vs:= [O sa Aa na ca,O sd Ad nd cd]) Y (xR Y.size hlow (hx.ext Y) (aK la J) (hy.ext Y) (aK ld J)) J (by kernel_rfl) fun _ _ r8 e7 ah=>?_)))))))))))
 obtain⟨_,_,rfl,⟨cm,az,bj,av,bg,ba,da,cu,rfl,fm,ge⟩,rfl⟩:=r8
 refine mv 1 J (pu (v:= a9 cm az bj av bg ba da cu) J (pu (v:= no 0) J (bL [F0,S0,F0,S0] ah (de.ext e7).lt (fun _=>by kernel_rfl) J fun ey _ cz fk _ ew df=>(so bC cz [.bool cm,we az bj av,.bool bg,we ba da cu] df fk J J J J fun _ aj fa dg=>(mv 1 J (a7 (aD (sr (mv 1 J (aI J J J false (by decide) (a7 (aQ J (aY ?_)))))))))))))
 refine aO (sr (pf ey 0 J (lo aA aj (a5 cm az bj av) J J J (bL [F0,S0] dg aj.lt (fun _=>by kernel_rfl) J fun bd _ bo en _ fL fh=>(so aA bo (a5 cm az bj av) fh en J J J J fun _ bf bm fd=>(a7 (sr (pf ey 2 J (lo aA ((aj.ext fL).vN bm) (a5 bg ba da cu) J J J (bL [F0,S0] fd bf.lt (fun _=>by kernel_rfl) J fun ao _ bu eg _ am dt=>(so aA bu (a5 bg ba da cu) dt eg J J J J fun aq dx ap du=>(a7 (aD ?_)))))))))))))
 refine aF (mv 1 J (a7 (aD (bO ?_))))
 have ix:(dD p q).length≤200000000:=a8 (DR _ _ (Int.le_of_lt hlow.pos)) (by have:=DY (m:=q.natAbs) (n:=1048576) Lq;omega)
 obtain⟨ak,fj,_,fc,_,_,_,_⟩:∃lb,lb≤aq.heap.size∧aq.heap.size≤lb∧w.heap.size≤lb∧g1<lb∧ey<lb∧bd<lb∧ao<lb:=⟨aq.heap.size,aZ _,aZ _,du.size,((((((de.ext (e7.t ew)).vN fa).ext fL).vN bm).ext am).vN ap).lt,((((aj.ext fL).vN bm).ext am).vN ap).lt,((bf.ext am).vN ap).lt,dx.lt⟩
 refine d8 (T:=a6×Int×Int×List Int×Option aB×Nat×Nat×ZC×ZC)
  (fun⟨H,nn,dd,pre,LA,M,lc,n4,f⟩=> [(6,i5 bd 0),(7,i5 ao 0),(8,we LA M lc)])
  (fun⟨H,nn,dd,pre,LA,M,lc,n4,f⟩=>H)
  (fun⟨H,nn,dd,pre,LA,M,lc,n4,f⟩=>(Ext w H)∧(pre++dD nn dd=dD p q)∧(0≤dd)∧(ln nn≤1048576)∧(ln dd≤1048576)∧(Lz none 1048579 w.heap.size H ak LA M lc pre)∧(ak≤H.heap.size)∧(Bk H bd 24 (a5 n4.s n4.A n4.n n4.c))∧(Bk H ao 24 (a5 f.s f.A f.n f.c))∧(El (some w) w.heap.size H n4 nn)∧(El (some w) w.heap.size H f dd)∧(n4.n≤1048576)∧(f.n≤1048576))
  (fun⟨H,nn,dd,pre,LA,M,lc,n4,f⟩=>dd.toNat)
  (⟨aq,p,q,[],none,0,0,⟨cm,az,bj,av⟩,⟨bg,ba,da,cu⟩⟩:a6×Int×Int×List Int×Option aB×Nat×Nat×ZC×ZC) ⟨du,(by rw [List.nil_append]),(Int.le_of_lt hlow.pos),(aK Lp J),(aK Lq J),(Lz.nil none 1048579 w.heap.size aq ak),fj,((bf.ext am).vN ap),dx,(cH ((((((fm.ext ew).updT cz fa).ext fL).updT bo bm).ext am).updT bu ap)),(cH ((((((ge.ext ew).updT cz fa).ext fL).updT bo bm).ext am).updT bu ap)),(fm.le (aK Lp J)),(ge.le (aK Lq J))⟩ J ⟨rfl,rfl,rfl,AT⟩ ?_
 rintro⟨H,nn,dd,pre,LA,M,lc,n4,f⟩ ⟨Y,hI,_,il,fi,aa,el,b_4,b_5,ic,dh,ig,dl⟩
 refine cR [(6,i5 bd 0),(7,i5 ao 0),(8,we LA M lc)] H J ⟨rfl,rfl,rfl,AT⟩ ?_
 have fg:=aa.block
 have gr:=aa.len
 have iy:M≤200000000:=by have h:=congrArg List.length hI;rw [fU] at h;omega
 have dz:∀p,LA=some p→p.block≠bd:=fun p hp=>by have:=aa.block p hp;omega
 have bi:∀p,LA=some p→p.block≠ao:=fun p hp=>by have:=aa.block p hp;omega
 refine aD (aD ?_)
 by_cases ia:dd≠0
 ·have dm:0<dd:=by omega
  refine aF (lo aA b_5 (a5 f.s f.A f.n f.c) J J J (cl (vs:= [O f.s f.A f.n f.c]) Y (eV (dh.zi Y) (aK dl J)) J (by kernel_rfl) fun _ _ ik o ah=>?_))
  obtain rfl:=ik
  refine aI J J J true (lT ia) (a7 (aW J (aY (aO (bO (sr (lo aA (b_4.ext o) (a5 n4.s n4.A n4.n n4.c) J J J (lo aA (b_5.ext o) (a5 f.s f.A f.n f.c) J J J (cl (vs:= [O n4.s n4.A n4.n n4.c,O f.s f.A f.n f.c]) ah (IA ah.size ((ic.ext o).zi ah) (aK ig J) ((dh.ext o).zi ah) (aK dl J) dm) J (by kernel_rfl) fun _ _ gn G df=>?_)))))))))
  obtain⟨_,_,_,rfl,⟨aw,ar,au,cv,rfl,ga⟩,⟨bp,cj,ck,ci,rfl,fz⟩,rfl⟩:=gn
  refine mv 1 J (pu (v:= O aw ar au cv) J (pu (v:= O bp cj ck ci) J (pu (v:= no 0) J (iH J (z:= .agg #[F0,S0]) (vs:= [F0,S0]) (fun _=>by kernel_rfl) J fun dr _ nb=>?_))))
  have ej:=nb.bk
  have ft:w.heap.size≤dr:=by rw [←nb.at_];exact df.size
  have iz:ao<dr:=by rw [←nb.at_];exact (b_5.ext (o.t G)).lt
  have bw:∀p,LA=some p→p.block≠dr:=fun p hp=>by have:=((aa.ext (o.t G))).block p hp;have:=nb.at_;omega
  have E:=nb.ext
  clear nb
  have dg:=df.trans E
  refine iH J (z:= .agg #[F0,S0]) (vs:= [F0,S0]) (fun _=>by kernel_rfl) J fun dw _ nb=>?_
  have gf:=nb.bk
  have gg:w.heap.size≤dw:=by rw [←nb.at_];exact dg.size
  have iu:dr<dw:=by rw [←nb.at_];exact ej.lt
  have ai:∀p,LA=some p→p.block≠dw:=fun p hp=>by have:=((aa.ext (o.t (G.t E)))).block p hp;have:=nb.at_;omega
  have F:=nb.ext
  clear nb
  have fh:=dg.trans F
  have U:=(ej.ext F)
  refine so aA U (a5 aw ar au cv) fh ft J J J J fun _ dy I fd=>?_
  have V:=(gf.vN I)
  refine so aA V (a5 bp cj ck ci) fd gg J J J J fun _ bh D dt=>(mv 1 J (a7 (sr (mv 1 J (lo aA (dy.vN D) (a5 aw ar au cv) J J J (iO J J (k:=1) (e:=24) (a5 aw ar au cv) (fun _=>by kernel_rfl) fun ez _ nb=>?_))))))
  have em:=nb.bk
  have io:w.heap.size≤ez:=by rw [←nb.at_];exact dt.size
  have iw:dw<ez:=by rw [←nb.at_];exact bh.lt
  have fx:∀p,LA=some p→p.block≠ez:=fun p hp=>by have:=((((aa.ext (o.t (G.t (E.t F)))).updT U I bw).updT V D ai)).block p hp;have:=nb.at_;omega
  have r:=nb.ext
  clear nb
  have du:=dt.trans r
  have ef:=((((aa.ext (o.t (G.t (E.t F)))).updT U I bw).updT V D ai).ext r)
  obtain⟨_,ch⟩:=ef.own
  refine F7 (e:=⟨aw,ar,au,cv⟩) (z:=nn/dd) J J J ef (a8 (a8 (a8 (a8 (a8 (a8 (a8 el o.size) G.size) E.size) F.size) I.by_.size) D.by_.size) r.size) em (cH ((((ga.ext (E.t F)).updT U I).updT V D).ext r)) (ga.le (a8 (JL dm il (by decide)) (by decide))) (by omega) (by decide) fun ij gy go ei L ae=>?_
  have ib:=L.ext du (fun p hp=>by have:=fg p hp;omega)
  have ct:ak≤go.heap.size:=a8 (a8 (a8 (a8 (a8 (a8 (a8 (a8 el o.size) G.size) E.size) F.size) I.by_.size) D.by_.size) r.size) L.size
  have gi:=nH ae ((((b_4.ext (o.t (G.t (E.t F)))).vN I).vN D).ext r).lt dz
  have fv:=nH ae ((((b_5.ext (o.t (G.t (E.t F)))).vN I).vN D).ext r).lt bi
  have iq:=nH ae ((dy.vN D).ext r).lt bw
  have gx:=nH ae (bh.ext r).lt ai
  have gk:=nH ae em.lt fx
  have gj:=ei.block
  refine mv 1 J (a7 (sr (lo aA (((((b_5.ext (o.t (G.t (E.t F)))).vN I).vN D).ext r).updO L bi) (a5 f.s f.A f.n f.c) J J J ?_)))
  have X:=(((((b_4.ext (o.t (G.t (E.t F)))).vN I).vN D).ext r).updO L dz)
  refine so aA X (a5 f.s f.A f.n f.c) ib en J J J J fun _ fb W fq=>(a7 (aF (lo aA (((bh.ext r).updO L ai).vN W) (a5 bp cj ck ci) J J J ?_)))
  have Z:=((((((b_5.ext (o.t (G.t (E.t F)))).vN I).vN D).ext r).updO L bi).vN W)
  refine so aA Z (a5 bp cj ck ci) fq eg J J J J fun fp fe ag gb=>(aX (bQ (cM (⟨fp,dd,nn%dd,pre++ [nn/dd],ij,M+1,gy,⟨f.s,f.A,f.n,f.c⟩,⟨bp,cj,ck,ci⟩⟩:a6×Int×Int×List Int×Option aB×Nat×Nat×ZC×ZC) ⟨gb,(by rw [List.append_assoc,←hI,kT dm];rfl),(j0 _ (by omega)),fi,(a8 (a8 (rH) fi) (by decide)),((ei.updT X W gi).updT Z ag fv),(a8 (a8 ct W.by_.size) ag.by_.size),(fb.vN ag),fe,(((((((dh.ext (o.t (G.t (E.t F)))).updT U I).updT V D).ext r).updOT ch L).updT X W).updT Z ag),(cH (((((((fz.ext (E.t F)).updT U I).updT V D).ext r).updOT ch L).updT X W).updT Z ag)),(aK dl J),(fz.le (a8 (a8 (rH) fi) (by decide)))⟩ (show (nn%dd).toNat<dd.toNat by have h1:=k9 nn dm;omega) J ⟨rfl,rfl,rfl,AT⟩)))
 ·have fw:dd=0:=by omega
  rw [fw,nL,mF] at hI
  refine aF (lo aA b_5 (a5 f.s f.A f.n f.c) J J J (cl (vs:= [O f.s f.A f.n f.c]) Y (eV (dh.zi Y) (aK dl J)) J (by kernel_rfl) fun _ _ gc fy ah=>?_))
  obtain rfl:=gc
  refine aI J J J false (lC (by omega)) (a7 (aQ J (d4 (cU (cY (cZ (aO (sr (mv 3 J (a7 (aV (aU [we LA M lc,I0] J ⟨rfl,rfl,AT⟩ ?_))))))))))))
  have eh:=((aa.ext fy)).mono (aZ _) (aZ _) fc
  rw [hI] at eh
  have hn:M=(dD p q).length:=by rw [←hI];exact gr.symm
  subst hn
  exact⟨_,rfl,⟨_,_,rfl,⟨_,_,rfl,eh⟩,rfl⟩,ah⟩
theorem G8 (h:z≤0):cG .lss (bE z 0) 1=some true:=by
 have e:¬0<bE z 0:=fun f=>by have:=qV.1 f;omega
 simp only [cG,eB,decide_eq_true_eq];omega
theorem IY (z:Int):nd [z]=(z,1):=by
 show (z*1+0,(1:Int))=_
 rw [Int.mul_one,Int.add_zero]
theorem L8 (hl:zs.length=n)(h0:0<n):zs.drop (n-1)= [zs.getD (n-1) 0]:=by
 rw [rS,List.drop_of_length_le (by omega)]
theorem UW (h:0<(nd zs).2):Low (nd zs).1 (nd zs).2 (nd zs).1 (nd zs).2:=⟨h,xW zs,rfl,aZ _,aZ _⟩
theorem SR (hb:b≤w.heap.size)(hl:Zl w A n cap zs ms)(hn:n≤1048576)(hmb:∀i,ms.getD i 0≤1048576)(hf:¬mS zs):aP aN 93 #[we A n cap] w (Gv w (T2 (FR b 0 0) (Is (no 3)))):=by
 refine bN Tryz.func93 J (n:=55) J (bq J) (args:= [we A n cap]) (bG [(0,we A n cap)] ⟨rfl,AT⟩ (sr (al [F0,S0,F0,S0] (Ext.refl w) (fun _=>by kernel_rfl) J fun g1 v2 H F _ f=>(mv 1 J (a7 (aD (aD ?_)))))))
 by_cases hz:n=0
 ·refine aF (mv 1 J (pu (v:= no n) J (aI J J J true (fF (a:=n) (b:=0) J J) (a7 (aW J (sr (pu (v:= .agg #[F0,S0,F0,S0]) J (so bC H [F0,S0,F0,S0] f F J J J J fun _ ab _ h=>(mv 1 J (a7 (aV (bR (aU [.agg #[F0,S0,F0,S0],no 3] J ⟨⟨_,rfl,bH bC ab [F0,S0,F0,S0] J (bq J) rfl⟩,rfl,AT⟩ ?_)))))))))))))
  exact⟨_,rfl,⟨_,_,rfl,⟨_,_,_,_,_,_,_,_,rfl,Zr.zero,Zr.zero⟩,rfl⟩,h⟩
 ·have ar:0<n:=by omega
  refine aF (mv 1 J (pu (v:= no n) J (aI J J J false (eR (a:=n) (b:=0) J J) (a7 (aQ J (aY (aO (aD (sr (mv 1 J (a7 (bO ?_))))))))))))
  refine d8 (T:=a6×Nat)
   (fun⟨wr,i⟩=> [(0,we A n cap),(2,i5 g1 0),(3,no 0),(4,no i)])
   (fun⟨wr,i⟩=>wr)
   (fun⟨wr,i⟩=>(Ext w wr)∧(1≤i)∧(i≤n)∧(∀j,1≤j→j<i→0<zs.getD j 0)∧(Bk wr g1 52 [F0,S0,F0,S0]))
   (fun⟨wr,i⟩=>n-i)
   (⟨v2,1⟩:a6×Nat) ⟨f,aZ _,(by omega),(fun j h1 h2=>by omega),H⟩ J ⟨rfl,rfl,rfl,rfl,AT⟩ ?_
  rintro⟨wr,i⟩ ⟨f,_,_,o,b_2⟩
  refine cR [(0,we A n cap),(2,i5 g1 0),(3,no 0),(4,no i)] wr J ⟨rfl,rfl,rfl,rfl,AT⟩ (aD (aD ?_))
  by_cases au:i<n
  ·refine aF (mv 2 J (pu (v:= no n) J (aI J J J true (eD (a:=i) (b:=n) J J) (a7 (aW J (aY (aO (aD (bO (aD ?_))))))))))
   by_cases hx:zs.getD i 0≤0
   ·refine aF (mv 2 J ?_)
    obtain⟨I,W,L,G,D,q,Z⟩:=hl.at (i:=i) (by omega)
    refine cD J J J mP aA.size i J I D (bB J J (q _ f _ _ aA) (cl (vs:= [.agg #[.bool W,we L (ms.getD i 0) G]]) f (eV (Z.ext f) (a8 (hmb i) (by decide))) J (by kernel_rfl) fun _ _ am aj h=>?_))
    obtain rfl:=am
    refine aI J J J true (G8 hx) (a7 (aW J (sr (pu (v:= .agg #[F0,S0,F0,S0]) J ?_))))
    have U:=(b_2.ext aj)
    refine so bC U [F0,S0,F0,S0] h F J J J J fun _ E _ ai=>(mv 1 J (a7 (aV (fK (bR (m5 (fK (bR (aU [.agg #[F0,S0,F0,S0],no 3] J ⟨⟨_,rfl,bH bC E [F0,S0,F0,S0] J (bq J) rfl⟩,rfl,AT⟩ ?_)))))))))
    exact⟨_,rfl,⟨_,_,rfl,⟨_,_,_,_,_,_,_,_,rfl,Zr.zero,Zr.zero⟩,rfl⟩,ai⟩
   ·refine aF (mv 2 J ?_)
    obtain⟨X,V,aa,M,r,p,Y⟩:=hl.at (i:=i) (by omega)
    refine cD J J J mP aA.size i J X r (bB J J (p _ f _ _ aA) (cl (vs:= [.agg #[.bool V,we aa (ms.getD i 0) M]]) f (eV (Y.ext f) (a8 (hmb i) (by decide))) J (by kernel_rfl) fun _ ah ag ae h=>?_))
    obtain rfl:=ag
    refine aI J J J false (BK (by omega)) (a7 (aQ J (aY (bQ (aO (aF (mv 1 J (aR J J J ((i+1:Nat):Int) (cA (a:=i) (b:=1) J J) (mv 1 J (aX (cM (⟨ah,i+1⟩:a6×Nat) ⟨h,(by omega),(by omega),(fun j h1 h2=>by rcases i7 j i with h3 | h3;exact o j h1 h3;obtain rfl:j=i:=(by omega);omega),(b_2.ext ae)⟩ (show n-(i+1)<n-i by omega) J ⟨rfl,rfl,rfl,rfl,AT⟩)))))))))))
  ·exact absurd ⟨fun e=>by have h5:=hl.len;rw [e] at h5;have h6:n=0:=h5.symm;omega,fun j h1 h2=>o j h1 (by rw [hl.len] at h2;omega)⟩ hf
theorem SS (hb:b≤w.heap.size)(hl:Zl w A n cap zs ms)(hn:n≤1048576)(hmb:∀i,ms.getD i 0≤1048576)(hnd:∀k,ln (nd (zs.drop k)).1≤2097153∧ln (nd (zs.drop k)).2≤2097153)(hf:mS zs)(hD:0<(nd zs).2):aP aN 93 #[we A n cap] w (Gv w (T2 (FR b (nd zs).1 (nd zs).2) (Is (no 0)))):=by
 have ez:0<n:=by rw [←hl.len];exact List.length_pos_iff.2 hf.1
 refine bN Tryz.func93 J (n:=55) J (bq J) (args:= [we A n cap]) (bG [(0,we A n cap)] ⟨rfl,AT⟩ (sr (al [F0,S0,F0,S0] (Ext.refl w) (fun _=>by kernel_rfl) J fun g1 v2 fc ft _ f=>(mv 1 J (a7 (aD (sr (mv 1 J (pu (v:= no n) J (aI J J J false (eR (a:=n) (b:=0) J J) (a7 (aQ J (aY ?_)))))))))))))
 refine aO (aD (sr (mv 1 J (a7 (bO ?_)))))
 refine d8 (T:=a6×Nat)
  (fun⟨wr,i⟩=> [(0,we A n cap),(2,i5 g1 0),(3,no 0),(4,no i)])
  (fun⟨wr,i⟩=>wr)
  (fun⟨wr,i⟩=>(Ext w wr)∧(1≤i)∧(i≤n)∧(Bk wr g1 52 [F0,S0,F0,S0]))
  (fun⟨wr,i⟩=>n-i)
  (⟨v2,1⟩:a6×Nat) ⟨f,aZ _,(by omega),fc⟩ J ⟨rfl,rfl,rfl,rfl,AT⟩ ?_
 rintro⟨wr,i⟩ ⟨f,fy,_,b_2⟩
 refine cR [(0,we A n cap),(2,i5 g1 0),(3,no 0),(4,no i)] wr J ⟨rfl,rfl,rfl,rfl,AT⟩ (aD (aD ?_))
 by_cases fg:i<n
 ·refine aF (mv 2 J (pu (v:= no n) J (aI J J J true (eD (a:=i) (b:=n) J J) (a7 (aW J (aY (aO (aD (bO (sr (mv 2 J ?_)))))))))))
  obtain⟨ge,gb,fe,fi,fb,cz,fd⟩:=hl.at (i:=i) (by omega)
  refine cD J J J mP aA.size i J ge fb (bB J J (cz _ f _ _ aA) (cl (vs:= [.agg #[.bool gb,we fe (ms.getD i 0) fi]]) f (eV (fd.ext f) (a8 (hmb i) (by decide))) J (by kernel_rfl) fun _ v7 r9 e8 o=>?_))
  obtain rfl:=r9
  refine aI J J J false (BK (hf.2 i fy (by rw [hl.len];exact fg))) (a7 (aQ J (aY (bQ (aO (aF (mv 1 J (aR J J J ((i+1:Nat):Int) (cA (a:=i) (b:=1) J J) (mv 1 J (aX (cM (⟨v7,i+1⟩:a6×Nat) ⟨o,(by omega),(by omega),(b_2.ext e8)⟩ (show n-(i+1)<n-i by omega) J ⟨rfl,rfl,rfl,rfl,AT⟩)))))))))))
 ·refine aF (mv 2 J (pu (v:= no n) J (aI J J J false (eE (a:=i) (b:=n) J J) (a7 (aQ J (d4 (cU (cY (cZ (aO (sr (mv 2 J (pu (v:= no n) J ?_)))))))))))))
  refine aR J J J ((n-1:Nat):Int) (gL (a:=n) (b:=1) J J) ?_
  obtain⟨ej,du,cv,dg,ch,cj,dy⟩:=hl.at (i:=n-1) (by omega)
  refine cD J J J mP aA.size (n-1) J ej ch (bB J J (cj _ f _ _ aA) (cl (vs:= [.agg #[.bool du,we cv (ms.getD (n-1) 0) dg]]) f (D4 f.size (dy.ext f) (a8 (hmb (n-1)) (by decide))) J (by kernel_rfl) fun _ _ fo dt o=>?_))
  obtain⟨em,dz,eg,ei,rfl,gc⟩:=fo
  refine bL [F0,S0] o (b_2.ext dt).lt (fun _=>by kernel_rfl) J fun bo _ bi bg _ de ag=>(so aA bi (a5 em dz eg ei) ag bg J J J J fun _ az fa ao=>(a7 (sr (cl (vs:= [no 1]) ao (lK (n:=1) ao.size) J (by kernel_rfl) fun _ _ gf am cm=>?_))))
  obtain⟨cu,dw,da,dr,rfl,fq⟩:=gf
  refine bL [F0,S0] cm (az.ext am).lt (fun _=>by kernel_rfl) J fun au _ ak bh _ aq fm=>(so aA ak (a5 cu dw da dr) fm bh J J J J fun fj ew ap fw=>(a7 (aD (sr (mv 1 J (pu (v:= no n) J (aR J J J (((n:Nat):Int)-2) (eL J) (mv 1 J (a7 (bO ?_))))))))))
  refine d8 (T:=a6×Nat×Int×ZC×ZC)
   (fun⟨wr,k,ii,e,k1⟩=> [(0,we A n cap),(2,i5 g1 0),(3,no 0),(5,i5 bo 0),(6,i5 au 0),(7,no ii)])
   (fun⟨wr,k,ii,e,k1⟩=>wr)
   (fun⟨wr,k,ii,e,k1⟩=>(Ext w wr)∧(k<n)∧(ii=(k:Int)-1)∧(Bk wr g1 52 [F0,S0,F0,S0])∧(Bk wr bo 24 (a5 e.s e.A e.n e.c))∧(Bk wr au 24 (a5 k1.s k1.A k1.n k1.c))∧(Zr wr w.heap.size e.s e.A e.n e.c (nd (zs.drop k)).1)∧(Zr wr w.heap.size k1.s k1.A k1.n k1.c (nd (zs.drop k)).2))
   (fun⟨wr,k,ii,e,k1⟩=>k)
   (⟨fj,n-1,_,⟨em,dz,eg,ei⟩,⟨cu,dw,da,dr⟩⟩:a6×Nat×Int×ZC×ZC) ⟨fw,(by omega),(by omega),((((b_2.ext (dt.t de)).vN fa).ext (am.t aq)).vN ap),((az.ext (am.t aq)).vN ap),ew,(((((gc.ext de).updT bi fa).ext (am.t aq)).updT ak ap)).cast (by rw [L8 hl.len ez,IY]),(((fq.ext aq).updT ak ap)).cast (by rw [L8 hl.len ez,IY])⟩ J ⟨rfl,rfl,rfl,rfl,rfl,rfl,AT⟩ ?_
  rintro⟨wr,k,ii,e,k1⟩ ⟨f,_,_,b_2,b_5,b_6,ai,ar⟩
  refine cR [(0,we A n cap),(2,i5 g1 0),(3,no 0),(5,i5 bo 0),(6,i5 au 0),(7,no ii)] wr J ⟨rfl,rfl,rfl,rfl,rfl,rfl,AT⟩ (aD (aD ?_))
  by_cases gj:0<k
  ·obtain⟨j,rfl⟩:∃j,k=j+1:=⟨k-1,by omega⟩
   obtain rfl:ii=(j:Int):=by omega
   refine aF (mv 1 J (aI J J J true (gA (a:=j) (b:=0) J J) (a7 (aW J (aY (aO (aD (bO (aD ?_)))))))))
   obtain⟨bf,ba,aw,bd,cp,bm,dl⟩:=hl.at (i:=j) (by omega)
   refine dG bY 8 [] [Is (we A n cap),Is (no j),Is (.pointer (some bf)),Is (.agg #[.bool ba,we aw (ms.getD j 0) bd]),Is (O e.s e.A e.n e.c),Is (O k1.s k1.A k1.n k1.c),ZR w.heap.size ((zs.getD j 0)*((nd (zs.drop (j+1))).1)+((nd (zs.drop (j+1))).2)),PR wr.heap.size 24 [F0,S0]] [[],[],[0,1],[2],[],[],[3,4,5],[]] [[],[],[0,1],[0,1,2],[],[],[0,1,2,3,4,5],[],[0,1,2,3,4,5,6,7]] rfl
    (aH J J (aE J J ?_) (aH J J (aE J J ?_) (aH J J (aE J J ?_) (aH J J (aE J J ?_) (aH J J (aE J J ?_) (aH J J (aE J J ?_) (aH J J (aE J J ?_) (aH J J (aE J J ?_) d9)))))))) ?_
   ·exact fun _ _=>aC (mv 1 J (aG J aL J))
   ·exact fun _ _=>aC (mv 1 J (aG J aL J))
   ·exact fun _ _=>dk J J (dk J J (aC (cD J J J mP aA.size j J bf cp (aG J aL J))))
   ·intro _ fz
    have o:=f.trans fz
    refine dk J J (aC (bB J J (bm _ o _ _ aA) ?_))
    exact aG J aL rfl
   ·exact fun _ fh=>aC (lo aA (b_5.ext fh) (a5 e.s e.A e.n e.c) J J J (aG J aL J))
   ·exact fun _ fx=>aC (lo aA (b_6.ext fx) (a5 k1.s k1.A k1.n k1.c) J J J (aG J aL J))
   ·intro _ ci
    have o:=f.trans ci
    refine dk J J (dk J J (dk J J (aC (cl (vs:= [.agg #[.bool ba,we aw (ms.getD j 0) bd],O e.s e.A e.n e.c,O k1.s k1.A k1.n k1.c]) o (KK o.size (dl.ext o) (a8 (hmb j) (by decide)) (ai.ext ci).zi (ai.le (a8 (hnd (j+1)).1 (by decide))) (ar.ext ci).zi (ar.le (a8 (hnd (j+1)).2 (by decide)))) J (by kernel_rfl) fun _ _ fk fv ag=>?_))))
    obtain⟨_,_,_,_,rfl,ga⟩:=fk
    exact aG J fv ⟨_,_,_,_,rfl,ga⟩
   ·intro _ fp
    refine aC (iH J (z:= .agg #[F0,S0]) (vs:= [F0,S0]) (fun _=>by kernel_rfl) J fun _ _ nb=>?_)
    exact aG J nb.ext ⟨_,rfl,by rw [←nb.at_];exact fp.size,nb.bk⟩
   ·intro _ ah
    have o:=f.trans ah
    refine dk J J (dk J J (dk J J (dk J J (dk J J (dk J J (aT J J fun _ _ dx _ df=>?_))))))
    obtain⟨I,aa,L,Y,rfl,aj⟩:=dx
    have aj:=aj.ext df
    refine aT J J fun _ _ dm _ ef=>?_
    obtain⟨bj,rfl,r,p⟩:=dm
    have p:=p.ext ef
    have gg:au<bj:=dJ b_6.lt r
    have r:w.heap.size≤bj:=a8 f.size r
    refine aC (so aA p (a5 I aa L Y) o r J J J J fun _ bw q ag=>(aX (dC (aO (sr (lo aA ((b_5.ext ah).vN q) (a5 e.s e.A e.n e.c) J J J ?_))))))
    have G:=((b_6.ext ah).vN q)
    refine so aA G (a5 e.s e.A e.n e.c) ag bh J J J J fun _ bu D ao=>(a7 (aF (lo aA (bw.vN D) (a5 I aa L Y) J J J ?_)))
    have E:=(((b_5.ext ah).vN q).vN D)
    refine so aA E (a5 I aa L Y) ao bg J J J J fun el ck W cm=>(aX (bQ (aO (aF (mv 1 J (aR J J J (((j:Nat):Int)-1) (eL J) (mv 1 J (aX (cM (⟨el,j,(j:Int)-1,⟨I,aa,L,Y⟩,⟨e.s,e.A,e.n,e.c⟩⟩:a6×Nat×Int×ZC×ZC) ⟨cm,(by omega),rfl,((((b_2.ext ah).vN q).vN D).vN W),ck,(bu.vN W),((((aj.updT p q).updT G D).updT E W)).cast (by rw [rS (zs:=zs) (i:=j) (h:=(by rw [hl.len];omega))];rfl),(((((ai.ext ah).updT p q).updT G D).updT E W)).cast (by rw [rS (zs:=zs) (i:=j) (h:=(by rw [hl.len];omega))];rfl)⟩ (show j<j+1 by omega) J ⟨rfl,rfl,rfl,rfl,rfl,rfl,AT⟩)))))))))
  ·obtain rfl:k=0:=by omega
   refine aF (mv 1 J (aI J J J false (kQ) (a7 (aQ J (d4 (cU (cY (cZ (aO (sr (lo aA b_5 (a5 e.s e.A e.n e.c) J J J (lo aA b_6 (a5 k1.s k1.A k1.n k1.c) J J J (cl (vs:= [O e.s e.A e.n e.c,O k1.s k1.A k1.n k1.c]) f (xR f.size (UW hD) ai.zi (ai.le (a8 (hnd 0).1 (by decide))) ar.zi (ar.le (a8 (hnd 0).2 (by decide)))) J (by kernel_rfl) fun _ _ eh ey o=>?_)))))))))))))
   obtain⟨_,_,rfl,⟨X,H,M,V,U,ab,ae,Z,rfl,en,dh⟩,rfl⟩:=eh
   refine pu (v:= a9 X H M V U ab ae Z) J (pu (v:= no 0) J ?_)
   have F:=(b_2.ext ey)
   refine so bC F [.bool X,we H M V,.bool U,we ab ae Z] o ft J J J J fun _ bp av ag=>(mv 1 J (a7 (aV (aU [a9 X H M V U ab ae Z,I0] J ⟨⟨_,rfl,bH bC bp [.bool X,we H M V,.bool U,we ab ae Z] J (bq J) rfl⟩,rfl,AT⟩ ?_))))
   exact⟨_,rfl,⟨_,_,rfl,⟨_,_,_,_,_,_,_,_,rfl,((en.updT F av)).mono hb,((dh.updT F av)).mono hb⟩,rfl⟩,ag⟩
section
variable {P:bW}{Q:Exit→Act→a6→Prop}{n:Nat}{l:Fr}{w:a6}{ops:Array bD}{rest:List bD}{d:Nat}{ty:aS}{pos:String}{af:Array Edge}
theorem O8 {x y:Operand}{T e t:aS}{dLen dCap sLen sCap:Nat}(hx:bV l x=some (we dp dLen dCap))(hy:bV l y=some (we sp sLen sCap))(hu:P.underlying T=some (.slice e))(hsz:(P.info? e).map (·.size)=some 1)(hg:Bk w g t vs)(hsrc:Rv w 1 sp sLen sCap us)(hpos:0<dLen→dp=some ⟨g,0,none⟩)(hfit:0+dLen≤vs.length)(h1:∀v∈us,v.oneCell'=true)(hn:d<n)(k:∀w',Bk w' g t (splice vs 0 (us.take dLen))→Upd g w w'→wl P ops Q n rest ((d,no ((min sLen dLen:Nat):Int))::l) w'):wl P ops Q n (⟨some d,.call {callee:= .builtin .copy,args:= #[x,y],argTypes:= #[T,T]},ty,pos,af,none⟩::rest) l w:=fun _ f=>
 wU J x y T T J (f.ev hx) (f.ev hy) hu hsz hg hsrc hpos hfit h1 fun w' h2 h=>k w' h2 h _ (f.put hn _)
end
theorem ZD (hb:2≤b)(X:Nat):∀j,(db b X).getD j 0=X/b^j%b:=by
 induction X using yY hb with
 | h0=>intro j;rw [jH,Nat.zero_div,Nat.zero_mod];rfl
 | hs n h ih=>
  intro j
  rw [lN hb h]
  cases j with
  | zero=>rw [Nat.pow_zero,Nat.div_one];rfl
  | succ j=>rw [cW,Nat.mul_comm,←Nat.div_div_eq_div_mul];exact ih j
theorem ZG (hx:lx.length=N)(hy:ly.length=N):splice (lx.map bF) 0 ((ly.map bF).take N)=ly.map bF:=by
 unfold splice
 rw [List.take_zero,List.nil_append,eJ,List.take_of_length_le (by rw [List.length_map];omega),List.length_map,List.drop_of_length_le (by rw [List.length_map];omega),mF]
theorem U4:∀v∈xs.map bF,v.oneCell'=true:=fun v e=>by
 obtain⟨x,_,rfl⟩:=List.mem_map.1 e
 rfl
theorem PY {L s:Nat}(hX:X<4294967296^L)(hn:n=L/2+2)(hs:s*s≤X):8*s+8≤4294967296^n:=by
 have h1:s<4294967296^(n-1):=by
  refine Nat.lt_of_not_le fun h=>?_
  have h2:=Nat.mul_le_mul h h
  rw [←dU] at h2
  have e:4294967296^L≤4294967296^(n-1+(n-1)):=eS (by decide) (by omega)
  omega
 obtain⟨k,rfl⟩:∃k,n=k+1:=⟨n-1,by omega⟩
 rw [mC] at h1
 rw [cW]
 omega
theorem Q0:(db 4294967296 X).getD (i/16) 0/2^(2*(i%16))%4=X/4^i%4:=by
 rw [ZD fT]
 have o:(4294967296:Nat)^(i/16)=2^(32*(i/16)):=by rw [Nat.pow_mul]
 have e:(4:Nat)^i=2^(32*(i/16))*2^(2*(i%16)):=by
  rw [←dU,show 32*(i/16)+2*(i%16)=2*i by omega,Nat.pow_mul]
 rw [o,e,←Nat.div_div_eq_div_mul]
 generalize X/2^(32*(i/16))=Z
 have h:(4294967296:Nat)=2^(2*(i%16))*2^(32-2*(i%16)):=by
  rw [←dU,show 2*(i%16)+(32-2*(i%16))=32 by omega]
 rw [h,Nat.mod_mul_right_div_self]
 have f:(2:Nat)^(32-2*(i%16))=4*2^(30-2*(i%16)):=by
  rw [show (4:Nat)=2^2 from rfl,←dU];congr 1;omega
 rw [f,Nat.mod_mul_right_mod]
theorem Q4 {p:Nat}(hp:p=X/4^i%4):X/4^i=4*(X/4^(i+1))+p:=by
 rw [cW,←Nat.div_div_eq_div_mul,hp]
 omega
theorem PX {s p:Nat}(h:IsRoot P 2 s)(hR:R+s*s=P)(hlt:R*4+p<4*s+1):IsRoot (4*P+p) 2 (2*s)∧R*4+p+2*s*(2*s)=4*P+p:=by
 have e:2*s*(2*s)=4*(s*s):=by grind
 refine⟨⟨by rw [Nat.pow_two];omega,?_⟩,by omega⟩
 have f:(2*s+1)^2=4*(s*s)+4*s+1:=by grind
 rw [f];omega
theorem Q3 {s p:Nat}(h:IsRoot P 2 s)(hp:p<4)(hR:R+s*s=P)(hlt:¬R*4+p<4*s+1):IsRoot (4*P+p) 2 (2*s+1)∧(R*4+p-(4*s+1))+(2*s+1)*(2*s+1)=4*P+p:=by
 have e:(2*s+1)*(2*s+1)=4*(s*s)+4*s+1:=by grind
 refine⟨⟨by rw [Nat.pow_two];omega,?_⟩,by omega⟩
 have h2:=h.2
 have f:(2*s+1+1)^2=4*(s+1)^2:=by grind
 rw [f];omega
theorem PZ {s:Nat}(h:IsRoot P 2 s)(hR:R+s*s=P):R≤2*s:=by
 have h2:=h.2
 have e:(s+1)^2=s*s+2*s+1:=by grind
 rw [e] at h2;omega
theorem LF {x d' q:Nat}(h:nb b (l'.take i)+b^i*c=nb b (l.take i)*2+q)(hi:i<l'.length)(hi2:i<l.length)(hx:l.getD i 0=x)(hd:d+b*d'=2*x+c):nb b ((l'.set i d).take (i+1))+b^(i+1)*d'=nb b (l.take (i+1))*2+q:=by
 rw [nG b hi,hZ b l i hi2,hx,cW,Nat.mul_assoc,Nat.add_assoc,←cI,hd,cI,Nat.add_mul]
 have e:b^i*(2*x)=b^i*x*2:=by grind
 omega
theorem LG {q:Nat}(hl:l.length=N)(hl':l'.length=N)(h:nb 4294967296 (l'.take N)+4294967296^N*c=nb 4294967296 (l.take N)*2+q)(hb:nb 4294967296 l*2+q<4294967296^N):nb 4294967296 l'=nb 4294967296 l*2+q:=by
 rw [List.take_of_length_le (by omega),List.take_of_length_le (by omega)] at h
 have f:c=0:=by
  refine Nat.eq_zero_of_not_pos fun e=>?_
  have o:4294967296^N*1≤4294967296^N*c:=Nat.mul_le_mul_left _ e
  omega
 rw [f,Nat.mul_zero,Nat.add_zero] at h
 exact h
theorem H6 {m Y:Nat}{b:Bool}(hx:Rd w A n cap (db 4294967296 X))(hln:n≤274877906944)(hy:Rd w D m cd (db 4294967296 Y))(hlm:m≤274877906944)(hb:decide (X<Y)=b):aP aN 240 #[we A n cap,we D m cd] w (Gv w (Is (.bool b))):=hb▸S7 hx hln hy hlm
theorem S8 (hx:Rd w A n cap xs)(hln:n≤137438953472):aP aN 204 #[we A n cap] w (fun e w'=>∃r,IsRoot (nv xs) 2 r∧Gv w (T2 (WR w.heap.size r) (WR w.heap.size (nv xs-r*r))) e w'):=by
 refine bN Tryz.func204 J (n:=90) J (bq J) (args:= [we A n cap]) (bG [(0,we A n cap)] ⟨rfl,AT⟩ (sr (mv 2 J (a7 (sr (mv 1 J (cl (vs:= [we A n cap]) (Ext.refl w) (sZ hx) J (by kernel_rfl) fun _ _ r3 e2 H=>?_)))))))
 obtain⟨A4,f,c4,rfl,bw⟩:=r3
 refine mv 1 J (a7 (aD ?_))
 have jc:=bw.len
 have ka:=bw.hl hx (aZ _)
 have ez:nv xs<4294967296^f:=by have h:=oL (jX fT (nv xs));rwa [gI fT,jc] at h
 refine aF (mv 1 J (pu (v:= no f) J (aR J J J ((f/2:Nat):Int) (lP (a:=f) (b:=2) J J) (aR J J J (((f/2)+2:Nat):Int) (cA (a:=f/2) (b:=2) J J) (mv 1 J (a7 (sr (mv 1 J (oA J (k:=(f/2)+2) J J J bU iD J fun g5 _ gj dw e9=>?_)))))))))
 rw [j7] at dw
 have cp:w.heap.size≤g5:=by rw [←gj];exact H.size
 have jp:0<cap→∀a,A=some a→a.block≠g5:=fun hc a ha=>by have:=((hx.ext e2)).rv.blk a ha hc;omega
 have au:0<c4→∀a,A4=some a→a.block≠g5:=fun hc a ha=>by have:=(bw).rv.blk a ha hc;omega
 clear gj
 have I:=H.trans e9
 refine mv 1 J (a7 (sr (mv 1 J (oA J (k:=(f/2)+2) J J J bU iD J fun E ib ch cj de=>?_))))
 rw [j7] at cj
 have ct:w.heap.size≤E:=by rw [←ch];exact I.size
 have ke:g5<E:=by rw [←ch];exact dw.lt
 have jr:0<cap→∀a,A=some a→a.block≠E:=fun hc a ha=>by have:=((hx.ext (e2.t e9))).rv.blk a ha hc;omega
 have cu:0<c4→∀a,A4=some a→a.block≠E:=fun hc a ha=>by have:=((bw.ext e9)).rv.blk a ha hc;omega
 clear ch
 have bd:=I.trans de
 refine mv 1 J (a7 (aD (sr (mv 1 J (pu (v:= no f) J (aR J J J ((16*f:Nat):Int) (oQ (a:=16) (b:=f) J J) (aR J J J (((16*f:Nat):Int)-1) (eL J) (mv 1 J (a7 (bO ?_))))))))))
 have fq:nv xs/4^(16*f)=0:=Nat.div_eq_of_lt (by rw [show (4:Nat)=2^2 from rfl,←Nat.pow_mul,show 2*(16*f)=32*f by omega,Nat.pow_mul];exact ez)
 have fa:nb 4294967296 (List.replicate ((f/2)+2) 0)=0:=vA _ _
 refine d8 (T:=a6×Nat×Int×List Nat×List Nat)
  (fun⟨wr,k,ii,lr,ls⟩=> [(4,we A4 f c4),(5,no (((f/2)+2:Nat):Int)),(6,we (some ⟨g5,0,none⟩) ((f/2)+2) ((f/2)+2)),(7,we (some ⟨E,0,none⟩) ((f/2)+2) ((f/2)+2)),(8,no ii)])
  (fun⟨wr,k,ii,lr,ls⟩=>wr)
  (fun⟨wr,k,ii,lr,ls⟩=>(Ext w wr)∧(k≤16*f)∧(ii=(k:Int)-1)∧(Bk wr g5 65 (lr.map bF))∧(lr.length=((f/2)+2))∧(Wfb 4294967296 lr)∧(Bk wr E 65 (ls.map bF))∧(ls.length=((f/2)+2))∧(Wfb 4294967296 ls)∧(IsRoot (nv xs/4^k) 2 (nb 4294967296 ls))∧(nb 4294967296 lr+nb 4294967296 ls*nb 4294967296 ls=nv xs/4^k)∧(Rd wr A4 f c4 (db 4294967296 (nv xs))))
  (fun⟨wr,k,ii,lr,ls⟩=>k)
  (⟨ib,16*f,_,_,_⟩:a6×Nat×Int×List Nat×List Nat) ⟨bd,aZ _,(by omega),(dw.ext de),(List.length_replicate (n:=(f/2)+2) (a:=0)),(oR _),cj,(List.length_replicate (n:=(f/2)+2) (a:=0)),(oR _),(by rw [fq,fa];exact IsRoot.zero (by decide)),(by rw [fq,fa]),(bw.ext (e9.t de))⟩ J ⟨rfl,rfl,rfl,rfl,rfl,AT⟩ ?_
 rintro⟨wr,k,ii,lr,ls⟩ ⟨H,_,_,ft,dz,dl,bf,ak,aw,hI,hR,ab⟩
 refine cR [(4,we A4 f c4),(5,no (((f/2)+2:Nat):Int)),(6,we (some ⟨g5,0,none⟩) ((f/2)+2) ((f/2)+2)),(7,we (some ⟨E,0,none⟩) ((f/2)+2) ((f/2)+2)),(8,no ii)] wr J ⟨rfl,rfl,rfl,rfl,rfl,AT⟩ (aD (aD ?_))
 by_cases jw:0<k
 ·obtain⟨j,rfl⟩:∃j,k=j+1:=⟨k-1,by omega⟩
  obtain rfl:ii=(j:Int):=by omega
  refine aF (mv 1 J (aI J J J true (gA (a:=j) (b:=0) J J) (a7 (aW J (aY (aO (aD (bO (aD ?_)))))))))
  have je:nb 4294967296 ls*nb 4294967296 ls≤nv xs:=a8 (a8 (Nat.le_add_left _ _) (Nat.le_of_eq hR)) (fH _ _)
  have jq:=PY ez J je
  have jv:=PZ hI hR
  have kc:=i6 (b:=4294967296) (jX fT (nv xs)) (j/16)
  have fw:=Q0 (X:=nv xs) (i:=j)
  have bh:=Q4 fw
  have fy:(db 4294967296 (nv xs)).getD (j/16) 0/2^(2*(j%16))%4<4:=f7 _ (by decide)
  have kd:(db 4294967296 (nv xs)).getD (j/16) 0/2^(2*(j%16))≤4294967295:=a8 (fH _ _) (by omega)
  refine aF (mv 2 J (aR J J J ((j/16:Nat):Int) (lP (a:=j) (b:=16) J J) ?_))
  obtain⟨jo,fj,dx,_⟩:=(ab).at (i:=j/16) (by omega)
  refine cD J J J bU bT (j/16) J jo fj (bB J J (dF cT dx) (mv 1 J (aR J J J ((j%16:Nat):Int) (jJ (a:=j) (b:=16) J J) (aR J J J ((2*(j%16):Nat):Int) (oQ (a:=2) (b:=j%16) J J) (cS J J (v:= up (IntKind.u64.wrap ((2*(j%16):Nat):Int))) (v':= up ((2*(j%16):Nat):Int)) (mQ (by first | omega | exact (by omega))) (nB J J J (r:= up ((((db 4294967296 (nv xs)).getD (j/16) 0)/2^(2*(j%16)):Nat):Int)) J (fun w=>oD (x:=(db 4294967296 (nv xs)).getD (j/16) 0) (s:=2*(j%16)) (by omega) _ _ w) (aR J J J (((((db 4294967296 (nv xs)).getD (j/16) 0)/2^(2*(j%16)))%4:Nat):Int) (jJ (a:=((db 4294967296 (nv xs)).getD (j/16) 0)/2^(2*(j%16))) (b:=4) J J) (mv 1 J (a7 (aD ?_))))))))))
  obtain⟨p,bg⟩:∃p,(((db 4294967296 (nv xs)).getD (j/16) 0)/2^(2*(j%16)))%4=p:=⟨_,rfl⟩
  rw [bg] at fw bh fy
  have jt:(((((db 4294967296 (nv xs)).getD (j/16) 0)/2^(2*(j%16)))%4:Nat):Int)=(p:Int):=by rw [bg]
  refine aF (mv 2 J (dQ J J (vs:= [we (some ⟨g5,0,none⟩) ((f/2)+2) ((f/2)+2),up (((((db 4294967296 (nv xs)).getD (j/16) 0)/2^(2*(j%16)))%4:Nat):Int)]) (by kernel_rfl) (by decide) (GZ (q:=(((db 4294967296 (nv xs)).getD (j/16) 0)/2^(2*(j%16)))%4) ft dz (by omega) dl (by rw [bg];omega) (by rw [bg];omega)) ?_))
  rintro _ _ ⟨rfl,aj,fp,U,ag,G,cv⟩
  refine dR ?_
  have I:=aj.ext H cp
  refine a7 (sr (mv 1 J (oA J (k:=(f/2)+2) J J J bU iD J fun L _ ar cz M=>?_)))
  rw [j7] at cz
  have ck:w.heap.size≤L:=by rw [←ar];exact I.size
  have kb:g5<L:=by rw [←ar];exact U.lt
  have jy:E<L:=by rw [←ar];exact (bf.vN aj).lt
  have aq:0<c4→∀a,A4=some a→a.block≠L:=fun hc a ha=>by have:=((Rd.updL ab aj au)).rv.blk a ha hc;omega
  clear ar
  have bd:=I.trans M
  refine mv 1 J (a7 (sr (mv 2 J (O8 J J Tryz.underlying22 (by kernel_rfl) cz (((bf.vN aj).ext M).rd0 aw.wf ak (by omega)).rv (fun _=>rfl) (by rw [List.length_map,(List.length_replicate (n:=(f/2)+2) (a:=0))];omega) U4 (by decide) fun _ cm W=>?_))))
  rw [ZG (List.length_replicate (n:=(f/2)+2) (a:=0)) ak] at cm
  have ik:=W.ext bd ck
  refine a7 (aD ?_)
  rw [bg] at cv
  refine aF (mv 1 J (dQ J J (vs:= [we (some ⟨L,0,none⟩) ((f/2)+2) ((f/2)+2),up 1]) (by kernel_rfl) (by decide) (GZ (q:=1) cm ak (by omega) aw (by decide) (by omega)) ?_))
  rintro _ _ ⟨rfl,Y,jg,ah,ae,F,_⟩
  refine dR ?_
  have gk:=Y.ext ik ck
  refine a7 (sr (mv 1 J (a7 (aD ?_))))
  by_cases el:nb 4294967296 fp<nb 4294967296 jg
  ·have bm:nb 4294967296 lr*4+p<4*nb 4294967296 ls+1:=by omega
   have hS:=PX hI hR bm
   refine aF (mv 1 J (cl (vs:= [we (some ⟨g5,0,none⟩) ((f/2)+2) ((f/2)+2)]) gk (mL ((((U.ext M).vN W).vN Y).rd0 G.wf ag (by omega))) J (by kernel_rfl) fun _ _ jb av dh=>?_))
   obtain⟨iz,rfl,go,fv,gx⟩:=jb
   refine mv 1 J (cl (vs:= [we (some ⟨L,0,none⟩) ((f/2)+2) ((f/2)+2)]) dh (mL ((ah.ext av).rd0 F.wf ae (by omega))) J (by kernel_rfl) fun _ _ ix bu dm=>?_)
   obtain⟨jn,rfl,fg,fz,gb⟩:=ix
   refine cl (vs:= [we (some ⟨g5,0,none⟩) iz ((f/2)+2),we (some ⟨L,0,none⟩) jn ((f/2)+2)]) dm (H6 (b:=true) ((((((U.ext M).vN W).vN Y).ext (av.t bu)).rd0 G.wf ag (by omega)).trim G go fv gx) (by omega) (((ah.ext (av.t bu)).rd0 F.wf ae (by omega)).trim F fg fz gb) (by omega) (by rw [decide_eq_true el])) J (by kernel_rfl) fun _ ie io du dr=>?_
   obtain rfl:=io
   refine mv 1 J (a7 (aD (sr (mv 1 J (pu (v:= AS) J (a7 (aQ J (aY (aO (sr (mv 2 J (a7 (aD ?_)))))))))))))
   refine aF (mv 1 J (a7 (bO ?_)))
   refine d8 (T:=a6×Nat×Nat×List Nat)
    (fun⟨o,j2,c,D⟩=> [(4,we A4 f c4),(5,no (((f/2)+2:Nat):Int)),(6,we (some ⟨g5,0,none⟩) ((f/2)+2) ((f/2)+2)),(7,we (some ⟨E,0,none⟩) ((f/2)+2) ((f/2)+2)),(8,no j),(13,up c),(14,no j2)])
    (fun⟨o,j2,c,D⟩=>o)
    (fun⟨o,j2,c,D⟩=>(Ext w o)∧(j2≤((f/2)+2))∧(c≤1)∧(Bk o g5 65 (fp.map bF))∧(Bk o E 65 (D.map bF))∧(D.length=((f/2)+2))∧(Wfb 4294967296 D)∧(∀q,j2≤q→D.getD q 0=ls.getD q 0)∧(nb 4294967296 (D.take j2)+4294967296^j2*c=nb 4294967296 (ls.take j2)*2+0)∧(Rd o A4 f c4 (db 4294967296 (nv xs))))
    (fun⟨o,j2,c,D⟩=>((f/2)+2)-j2)
    (⟨ie,0,0,ls⟩:a6×Nat×Nat×List Nat) ⟨dr,(bJ _),(by decide),((((U.ext M).vN W).vN Y).ext (av.t (bu.t du))),(((((bf.vN aj).ext M).vN W).vN Y).ext (av.t (bu.t du))),ak,aw,(fun _ _=>rfl),(by simp [nb]),((Rd.updL (Rd.updL ((Rd.updL ab aj au).ext M) W aq) Y aq).ext (av.t (bu.t du)))⟩ J ⟨rfl,rfl,rfl,rfl,rfl,rfl,rfl,AT⟩ ?_
   rintro⟨o,j2,c,D⟩ ⟨H,jh,hc,am,Z,V,ao,bo,ap,ab⟩
   refine cR [(4,we A4 f c4),(5,no (((f/2)+2:Nat):Int)),(6,we (some ⟨g5,0,none⟩) ((f/2)+2) ((f/2)+2)),(7,we (some ⟨E,0,none⟩) ((f/2)+2) ((f/2)+2)),(8,no j),(13,up c),(14,no j2)] o J ⟨rfl,rfl,rfl,rfl,rfl,rfl,rfl,AT⟩ (aD (aD ?_))
   by_cases jk:j2<(f/2)+2
   ·refine aF (mv 2 J (aI J J J true (eD (a:=j2) (b:=(f/2)+2) J J) (a7 (aW J (aY (aO (aD (bO (aD ?_)))))))))
    have hd:=i6 (b:=4294967296) ao j2
    refine aF (mv 2 J (cD J J J bU bT j2 J ⟨E,j2,none⟩ (eA _ _) (bB J J (iB cT Z (by rw [V];omega)) (aR J J J ((2*(D.getD j2 0):Nat):Int) (kU (a:=2) (b:=D.getD j2 0) J J) (mv 1 J (aR J J J (((2*(D.getD j2 0))+c:Nat):Int) (iY (a:=2*(D.getD j2 0)) (b:=c) J J) (mv 1 J (a7 (sr (mv 3 J (aR J J J ((((2*(D.getD j2 0))+c)%4294967296:Nat):Int) (jJ (a:=(2*(D.getD j2 0))+c) (b:=4294967296) J J) (cD J J J bU bT j2 J ⟨E,j2,none⟩ (eA _ _) ?_))))))))))))
    have en:=Z
    refine dE J J J bT J en (gV (by rw [V];omega)) J ((D.set j2 (((2*(D.getD j2 0))+c)%4294967296)).map bF) (dX _ _ _) fun iv em dt _=>?_
    have I:=dt.ext H ct
    refine a7 (aF (mv 1 J (aR J J J ((((2*(D.getD j2 0))+c)/4294967296:Nat):Int) (jK (a:=(2*(D.getD j2 0))+c) (b:=4294967296) J J) (mv 1 J (aX (bQ (aO (aF (mv 1 J (aR J J J ((j2+1:Nat):Int) (cA (a:=j2) (b:=1) J J) (mv 1 J (aX (cM (⟨iv,j2+1,_,_⟩:a6×Nat×Nat×List Nat) ⟨I,(by omega),(by omega),(am.vN dt),em,(iC (l:=D) (V)),i0 ao _ (hx:=(f7 _ (by decide))),(C4 bo),(LF ap (by omega) (by omega) (bo j2 (aZ _)).symm (iS _ _)),(Rd.updL ab dt cu)⟩ (show ((f/2)+2)-(j2+1)<((f/2)+2)-j2 by omega) J ⟨rfl,rfl,rfl,rfl,rfl,rfl,rfl,AT⟩)))))))))))))
   ·have da:j2=((f/2)+2):=by omega
    rw [da] at ap
    have ai:nb 4294967296 D=2*nb 4294967296 ls:=by have h:=LG ak V ap (by omega);omega
    refine aF (mv 2 J (aI J J J false (eE (a:=j2) (b:=(f/2)+2) J J) (a7 (aQ J (d4 (cU (cY (cZ (bQ (aO (aF (mv 1 J (aR J J J (((j:Nat):Int)-1) (eL J) ?_)))))))))))))
    refine mv 1 J (aX (cM (⟨o,j,_,_,_⟩:a6×Nat×Int×List Nat×List Nat) ⟨H,(by omega),rfl,am,ag,G,Z,V,ao,(by rw [ai,bh];exact hS.1),(by rw [ai,bh,cv];exact hS.2),ab⟩ (show j<j+1 by omega) J ⟨rfl,rfl,rfl,rfl,rfl,AT⟩))
  ·have bm:¬nb 4294967296 lr*4+p<4*nb 4294967296 ls+1:=by omega
   have hS:=Q3 hI fy hR bm
   refine aF (mv 1 J (cl (vs:= [we (some ⟨g5,0,none⟩) ((f/2)+2) ((f/2)+2)]) gk (mL ((((U.ext M).vN W).vN Y).rd0 G.wf ag (by omega))) J (by kernel_rfl) fun _ _ iy lM dh=>?_))
   obtain⟨im,rfl,gi,ef,fh⟩:=iy
   refine mv 1 J (cl (vs:= [we (some ⟨L,0,none⟩) ((f/2)+2) ((f/2)+2)]) dh (mL ((ah.ext lM).rd0 F.wf ae (by omega))) J (by kernel_rfl) fun _ _ jf nI dm=>?_)
   obtain⟨jj,rfl,fx,fd,fe⟩:=jf
   refine cl (vs:= [we (some ⟨g5,0,none⟩) im ((f/2)+2),we (some ⟨L,0,none⟩) jj ((f/2)+2)]) dm (H6 (b:=false) ((((((U.ext M).vN W).vN Y).ext (lM.t nI)).rd0 G.wf ag (by omega)).trim G gi ef fh) (by omega) (((ah.ext (lM.t nI)).rd0 F.wf ae (by omega)).trim F fx fd fe) (by omega) (by rw [decide_eq_false el])) J (by kernel_rfl) fun _ _ jl bp dr=>?_
   obtain rfl:=jl
   refine mv 1 J (a7 (aD (sr (mv 1 J (pu (v:= AI) J (a7 (aW J (sr (mv 2 J (cl (vs:= [we (some ⟨L,0,none⟩) ((f/2)+2) ((f/2)+2)]) dr (mL ((ah.ext (lM.t (nI.t bp))).rd0 F.wf ae (by omega))) J (by kernel_rfl) fun _ _ jd ci iw=>?_))))))))))
   obtain⟨ga,rfl,_,_,fb⟩:=jd
   have gr:=fb 4294967296
   refine dQ J J (vs:= [we (some ⟨g5,0,none⟩) ((f/2)+2) ((f/2)+2),we (some ⟨L,0,none⟩) ga ((f/2)+2),up 1,I0]) (by kernel_rfl) (by decide) (uU (q:=1) (s:=0) ((((U.ext M).vN W).vN Y).ext (lM.t (nI.t (bp.t ci)))) ag G (((ah.ext (lM.t (nI.t (bp.t ci)))).rd0 F.wf ae (by omega)).take (k:=ga) (by omega) (by omega) (aZ _)) (jM F _) (fun _ a ha=>by cases ha;show L≠g5;omega) (by decide) (by rw [gr,Nat.pow_zero];omega)) ?_
   rintro _ ij ⟨rfl,dg,gg,ei,ej,gc,fi⟩
   refine dR ?_
   rw [gr,Nat.pow_zero,Nat.mul_one,Nat.one_mul] at fi
   have ew:=dg.ext iw cp
   have ji:nb 4294967296 gg=nb 4294967296 lr*4+p-(4*nb 4294967296 ls+1):=by omega
   refine a7 (aF (mv 1 J (a7 (sr (mv 2 J (a7 (sr (mv 1 J (a7 (bO ?_))))))))))
   refine d8 (T:=a6×Nat×Nat×List Nat)
    (fun⟨o,j2,c,D⟩=> [(4,we A4 f c4),(5,no (((f/2)+2:Nat):Int)),(6,we (some ⟨g5,0,none⟩) ((f/2)+2) ((f/2)+2)),(7,we (some ⟨E,0,none⟩) ((f/2)+2) ((f/2)+2)),(8,no j),(13,up c),(14,no j2)])
    (fun⟨o,j2,c,D⟩=>o)
    (fun⟨o,j2,c,D⟩=>(Ext w o)∧(j2≤((f/2)+2))∧(c≤1)∧(Bk o g5 65 (gg.map bF))∧(Bk o E 65 (D.map bF))∧(D.length=((f/2)+2))∧(Wfb 4294967296 D)∧(∀q,j2≤q→D.getD q 0=ls.getD q 0)∧(nb 4294967296 (D.take j2)+4294967296^j2*c=nb 4294967296 (ls.take j2)*2+1)∧(Rd o A4 f c4 (db 4294967296 (nv xs))))
    (fun⟨o,j2,c,D⟩=>((f/2)+2)-j2)
    (⟨ij,0,1,ls⟩:a6×Nat×Nat×List Nat) ⟨ew,(bJ _),(by decide),ei,((((((bf.vN aj).ext M).vN W).vN Y).ext (lM.t (nI.t (bp.t ci)))).vN dg),ak,aw,(fun _ _=>rfl),(by simp [nb]),(Rd.updL ((Rd.updL (Rd.updL ((Rd.updL ab aj au).ext M) W aq) Y aq).ext (lM.t (nI.t (bp.t ci)))) dg au)⟩ J ⟨rfl,rfl,rfl,rfl,rfl,rfl,rfl,AT⟩ ?_
   rintro⟨o,j2,c,D⟩ ⟨H,jh,hc,am,Z,V,ao,bo,ap,ab⟩
   refine cR [(4,we A4 f c4),(5,no (((f/2)+2:Nat):Int)),(6,we (some ⟨g5,0,none⟩) ((f/2)+2) ((f/2)+2)),(7,we (some ⟨E,0,none⟩) ((f/2)+2) ((f/2)+2)),(8,no j),(13,up c),(14,no j2)] o J ⟨rfl,rfl,rfl,rfl,rfl,rfl,rfl,AT⟩ (aD (aD ?_))
   by_cases jk:j2<(f/2)+2
   ·refine aF (mv 2 J (aI J J J true (eD (a:=j2) (b:=(f/2)+2) J J) (a7 (aW J (aY (aO (aD (bO (aD ?_)))))))))
    have hd:=i6 (b:=4294967296) ao j2
    refine aF (mv 2 J (cD J J J bU bT j2 J ⟨E,j2,none⟩ (eA _ _) (bB J J (iB cT Z (by rw [V];omega)) (aR J J J ((2*(D.getD j2 0):Nat):Int) (kU (a:=2) (b:=D.getD j2 0) J J) (mv 1 J (aR J J J (((2*(D.getD j2 0))+c:Nat):Int) (iY (a:=2*(D.getD j2 0)) (b:=c) J J) (mv 1 J (a7 (sr (mv 3 J (aR J J J ((((2*(D.getD j2 0))+c)%4294967296:Nat):Int) (jJ (a:=(2*(D.getD j2 0))+c) (b:=4294967296) J J) (cD J J J bU bT j2 J ⟨E,j2,none⟩ (eA _ _) ?_))))))))))))
    have gf:=Z
    refine dE J J J bT J gf (gV (by rw [V];omega)) J ((D.set j2 (((2*(D.getD j2 0))+c)%4294967296)).map bF) (dX _ _ _) fun ig ge df _=>?_
    have I:=df.ext H ct
    refine a7 (aF (mv 1 J (aR J J J ((((2*(D.getD j2 0))+c)/4294967296:Nat):Int) (jK (a:=(2*(D.getD j2 0))+c) (b:=4294967296) J J) (mv 1 J (aX (bQ (aO (aF (mv 1 J (aR J J J ((j2+1:Nat):Int) (cA (a:=j2) (b:=1) J J) (mv 1 J (aX (cM (⟨ig,j2+1,_,_⟩:a6×Nat×Nat×List Nat) ⟨I,(by omega),(by omega),(am.vN df),ge,(iC (l:=D) (V)),i0 ao _ (hx:=(f7 _ (by decide))),(C4 bo),(LF ap (by omega) (by omega) (bo j2 (aZ _)).symm (iS _ _)),(Rd.updL ab df cu)⟩ (show ((f/2)+2)-(j2+1)<((f/2)+2)-j2 by omega) J ⟨rfl,rfl,rfl,rfl,rfl,rfl,rfl,AT⟩)))))))))))))
   ·have da:j2=((f/2)+2):=by omega
    rw [da] at ap
    have ai:nb 4294967296 D=2*nb 4294967296 ls+1:=by have h:=LG ak V ap (by omega);omega
    refine aF (mv 2 J (aI J J J false (eE (a:=j2) (b:=(f/2)+2) J J) (a7 (aQ J (d4 (cU (cY (cZ (bQ (aO (aF (mv 1 J (aR J J J (((j:Nat):Int)-1) (eL J) ?_)))))))))))))
    refine mv 1 J (aX (cM (⟨o,j,_,_,_⟩:a6×Nat×Int×List Nat×List Nat) ⟨H,(by omega),rfl,am,ej,gc,Z,V,ao,(by rw [ai,bh];exact hS.1),(by rw [ai,bh,ji];exact hS.2),ab⟩ (show j<j+1 by omega) J ⟨rfl,rfl,rfl,rfl,rfl,AT⟩))
 ·obtain rfl:k=0:=by omega
  refine aF (mv 1 J (aI J J J false (kQ) (a7 (aQ J (d4 (cU (cY (cZ (aO (sr (mv 1 J (cl (vs:= [we (some ⟨E,0,none⟩) ((f/2)+2) ((f/2)+2)]) H (BX (bf.rd0 aw.wf ak (by omega)) (by omega) aw) J (by kernel_rfl) fun _ _ jm il I=>?_))))))))))))
  obtain⟨iq,ja,ic,rfl,ir,iu⟩:=jm
  refine mv 1 J (cl (vs:= [we (some ⟨g5,0,none⟩) ((f/2)+2) ((f/2)+2)]) I (BX ((ft.ext il).rd0 dl.wf dz (by omega)) (by omega) dl) J (by kernel_rfl) fun _ _ fk fc bd=>?_)
  obtain⟨fm,eh,gy,rfl,eg,fo⟩:=fk
  refine mv 2 J (a7 (aV (aU [we iq ja ic,we fm eh gy] J ⟨rfl,rfl,AT⟩ ?_)))
  rw [Nat.pow_zero,Nat.div_one] at hI hR
  exact⟨_,hI,_,rfl,⟨_,_,rfl,⟨_,_,_,rfl,ir,((iu.ext fc)).mono H.size⟩,(by rw [show nv xs-nb 4294967296 ls*nb 4294967296 ls=nb 4294967296 lr by omega];exact⟨_,_,_,rfl,eg,(fo).mono I.size⟩)⟩,bd⟩
theorem TB (hb:b≤w.heap.size)(hm:0<m)(hX:X=(m.natAbs-1)/2)(hx:Wi w A n cap X)(hl:n≤67108864):aP aN 204 #[we A n cap] w (Gv w (T2 (WR b (rK m)) (WR b (X-rK m*rK m)))):=by
 obtain⟨xs,h1,rfl⟩:=hx
 refine (S8 h1 (by omega)).mono ?_
 rintro e w' ⟨r,hr,h⟩
 obtain rfl:=I2 hm hX hr
 exact Gv.imp (T2.imp (WR.imp hb) (WR.imp hb)) _ _ h
theorem SQ (hb:b≤w.heap.size)(hm:Zi w sa Aa na ca m)(la:na≤1048576)(hm0:0<m):aP aN 160 #[O sa Aa na ca] w (Gv w (ZR b (((rK m:Nat):Int)))):=by
 refine Calls.mono (R:=Gv w (ZR w.heap.size (((rK m:Nat):Int)))) ?_ (Gv.imp (ZR.imp hb))
 have Lm:ln m≤1048576:=a8 hm.ln la
 refine bN Tryz.func160 J (n:=27) J (bq J) (args:= [O sa Aa na ca]) (bG [(0,O sa Aa na ca)] ⟨rfl,AT⟩ (sr (bx (a5 sa Aa na ca) (Ext.refl w) J J J fun _ _ fc _ _ ib=>(bL [F0,S0] ib fc.lt (fun _=>by kernel_rfl) J fun g6 v7 dh fx _ e8 ao=>(a7 (aD ?_))))))
 refine dG bY 4 [] [Is (O sa Aa na ca),ZR w.heap.size (1),ZR w.heap.size (m-1),PR v7.heap.size 24 [F0,S0]] [[],[],[0,1],[]] [[],[],[0,1],[],[0,1,2,3]] rfl
  (aH J J (aE J J ?_) (aH J J (aE J J ?_) (aH J J (aE J J ?_) (aH J J (aE J J ?_) d9)))) ?_
 ·exact fun _ ja=>aC (lo aA (fc.ext (e8.t ja)) (a5 sa Aa na ca) J J J (aG J aL J))
 ·intro _ iz
  have r:=ao.trans iz
  refine aC (cl (vs:= [no 1]) r (lK (n:=1) r.size) J (by kernel_rfl) fun _ _ jg il F=>?_)
  obtain⟨_,_,_,_,rfl,iw⟩:=jg
  exact aG J il ⟨_,_,_,_,rfl,iw⟩
 ·intro _ gy
  have r:=ao.trans gy
  refine dk J J (aT J J fun _ _ iy _ gx=>?_)
  obtain⟨jj,ig,iq,jh,rfl,ak⟩:=iy
  have ak:=ak.ext gx
  refine aC (cl (vs:= [O sa Aa na ca,O jj ig iq jh]) r (yK r.size (hm.ext r) (aK la J) ak.zi (ak.le (a8 (show ln 1≤1 by decide+kernel) (by decide)))) J (by kernel_rfl) fun _ _ iu ji F=>?_)
  obtain⟨_,_,_,_,rfl,ir⟩:=iu
  exact aG J ji ⟨_,_,_,_,rfl,ir⟩
 ·intro _ ia
  refine aC (iH J (z:= .agg #[F0,S0]) (vs:= [F0,S0]) (fun _=>by kernel_rfl) J fun _ _ nb=>?_)
  exact aG J nb.ext ⟨_,rfl,by rw [←nb.at_];exact ia.size,nb.bk⟩
 ·intro _ dy
  have r:=ao.trans dy
  refine dk J J (aT J J fun _ _ jc _ io=>?_)
  obtain⟨_,_,_,_,rfl,gi⟩:=jc
  have gi:=gi.ext io
  refine aT J J fun _ _ jb _ ie=>?_
  obtain⟨aq,au,ap,ar,rfl,av⟩:=jb
  have av:=av.ext ie
  refine aT J J fun _ _ ix _ iv=>?_
  obtain⟨am,rfl,V,L⟩:=ix
  have L:=L.ext iv
  have jq:g6<am:=dJ dh.lt V
  have V:w.heap.size≤am:=a8 ao.size V
  refine aC (so aA L (a5 aq au ap ar) r V J J J J fun fp ag gn F=>(aX (dC (aO (aD ?_)))))
  refine yZ bY 9 [4,5,6] [7,8] [Is (O aq au ap ar),ZR w.heap.size (2),T3 (ZR w.heap.size ((m-1)/2)) (ZR w.heap.size ((m-1)%2)) (Is (no 0)),T3 (ZR w.heap.size ((m-1)/2)) (ZR w.heap.size ((m-1)%2)) (Is (no 0)),ZR w.heap.size ((m-1)/2),ZR w.heap.size ((m-1)%2),Is (no 0),PR fp.heap.size 24 [F0,S0],PR fp.heap.size 24 [F0,S0]] [[],[],[0,1],[2],[3],[3],[3],[],[]] [[],[],[0,1],[0,1,2],[0,1,2,3],[0,1,2,3],[0,1,2,3],[],[],[0,1,2,3,4,7,8],[0,1,2,3,4,5,7,8,9],[0,1,2,3,4,5,6,7,8,9,10]] J J ⟨fun _ _ h=>PR.old h,fun _ _ h=>PR.old h,AT⟩
   (aH J J (aE J J ?_) (aH J J (aE J J ?_) (aH J J (aE J J ?_) (aH J J (aE J J ?_) (fD J J (fE J ?_) (fD J J (fE J ?_) (fD J J (fE J ?_) (aH J J (tK J ?_) (aH J J (tK J ?_) d9))))))))) ?_
  ·exact fun _ ij=>aC (lo aA (ag.ext ij) (a5 aq au ap ar) J J J (aG J aL J))
  ·intro _ ik
   have H:=F.trans ik
   refine aC (cl (vs:= [no 2]) H (lK (n:=2) H.size) J (by kernel_rfl) fun _ _ jf jd ct=>?_)
   obtain⟨_,_,_,_,rfl,je⟩:=jf
   exact aG J jd ⟨_,_,_,_,rfl,je⟩
  ·intro _ de
   have H:=F.trans de
   refine dk J J (aT J J fun _ _ gb _ ei=>?_)
   obtain⟨eg,dz,fv,fh,rfl,U⟩:=gb
   have U:=U.ext ei
   refine aC (cl (vs:= [O aq au ap ar,O eg dz fv fh]) H (IA H.size ((av.updT L gn).ext de).zi (av.le (a8 (a8 (dZ (by omega)) Lm) (by decide))) U.zi (U.le (a8 (show ln 2≤1 by decide+kernel) (by decide))) (by decide)) J (by kernel_rfl) fun _ _ ej ef ct=>?_)
   obtain⟨_,_,_,rfl,⟨_,_,_,_,rfl,cz⟩,⟨_,_,_,_,rfl,dw⟩,rfl⟩:=ej
   exact aG J ef ⟨_,_,_,rfl,⟨_,_,_,_,rfl,cz⟩,⟨_,_,_,_,rfl,dw⟩,rfl⟩
  ·intro _ _
   refine aT J J fun _ _ gf _ ba=>?_
   obtain⟨_,_,_,rfl,⟨_,_,_,_,rfl,aj⟩,⟨_,_,_,_,rfl,ab⟩,rfl⟩:=gf
   have aj:=aj.ext ba
   have ab:=ab.ext ba
   refine aC (mv 1 J ?_)
   exact aG J aL ⟨_,_,_,rfl,⟨_,_,_,_,rfl,aj⟩,⟨_,_,_,_,rfl,ab⟩,rfl⟩
  ·intro _ _
   refine aT J J fun _ _ fy _ bo=>?_
   obtain⟨_,_,_,rfl,⟨dl,fi,dm,ez,rfl,aa⟩,⟨_,_,_,_,rfl,cp⟩,rfl⟩:=fy
   have aa:=aa.ext bo
   have cp:=cp.ext bo
   refine aC ?_
   exact⟨O dl fi dm ez,rfl,rfl,fun _=>by kernel_rfl,⟨_,_,_,_,rfl,aa⟩⟩
  ·intro _ _
   refine aT J J fun _ _ gj _ cm=>?_
   obtain⟨_,_,_,rfl,⟨_,_,_,_,rfl,bh⟩,⟨ge,fj,fo,go,rfl,Y⟩,rfl⟩:=gj
   have bh:=bh.ext cm
   have Y:=Y.ext cm
   refine aC ?_
   exact⟨O ge fj fo go,rfl,rfl,fun _=>by kernel_rfl,⟨_,_,_,_,rfl,Y⟩⟩
  ·intro _ _
   refine aT J J fun _ _ gr _ bi=>?_
   obtain⟨_,_,_,rfl,⟨_,_,_,_,rfl,az⟩,⟨_,_,_,_,rfl,ck⟩,rfl⟩:=gr
   have az:=az.ext bi
   have ck:=ck.ext bi
   refine aC ?_
   exact⟨no 0,rfl,rfl,fun _=>by kernel_rfl,rfl⟩
  ·intro _ gc
   refine aC (iH J (z:= .agg #[F0,S0]) (vs:= [F0,S0]) (fun _=>by kernel_rfl) J fun _ _ nb=>?_)
   exact aG J nb.ext ⟨⟨_,rfl,by rw [←nb.at_];exact gc.size,nb.bk⟩,_,rfl,Nat.le_of_eq nb.at_⟩
  ·intro _ fd
   refine aC (iH J (z:= .agg #[F0,S0]) (vs:= [F0,S0]) (fun _=>by kernel_rfl) J fun _ _ nb=>?_)
   exact aG J nb.ext ⟨⟨_,rfl,by rw [←nb.at_];exact fd.size,nb.bk⟩,_,rfl,Nat.le_of_eq nb.at_⟩
  ·intro _ bd
   have H:=F.trans bd
   refine dk J J (aT J J fun _ _ da _ ga=>?_)
   obtain⟨_,_,_,_,rfl,ci⟩:=da
   have ci:=ci.ext ga
   refine aT J J fun _ _ el _ bf=>?_
   obtain⟨_,_,_,rfl,⟨_,_,_,_,rfl,ch⟩,⟨_,_,_,_,rfl,bg⟩,rfl⟩:=el
   have ch:=ch.ext bf
   have bg:=bg.ext bf
   refine aT J J fun _ _ en _ bu=>?_
   obtain⟨_,_,_,rfl,⟨_,_,_,_,rfl,bj⟩,⟨_,_,_,_,rfl,bp⟩,rfl⟩:=en
   have bj:=bj.ext bu
   have bp:=bp.ext bu
   refine aT J J fun _ _ ey _ ft=>?_
   obtain⟨gk,bm,aw,cj,rfl,M⟩:=ey
   have M:=M.ext ft
   refine aT J J fun _ _ du _ em=>?_
   obtain⟨dg,eh,fm,fg,rfl,bw⟩:=du
   have bw:=bw.ext em
   refine dk J J (aT J J fun _ _ dx _ fa=>?_)
   obtain⟨I,rfl,f,o⟩:=dx
   have o:=o.ext fa
   have jl:am<I:=dJ ag.lt f
   have f:w.heap.size≤I:=a8 F.size f
   refine aT J J fun _ _ fq _ fz=>?_
   obtain⟨X,rfl,p,G⟩:=fq
   have G:=G.ext fz
   have jm:am<X:=dJ ag.lt p
   have p:w.heap.size≤X:=a8 F.size p
   refine aC ?_
   intro W
   have jk:X≠I:=fun e=>W 8 (by decide) 7 (by decide) (by decide) _ _ J J _ J (by rw [e];rfl)
   clear W
   refine so aA o (a5 gk bm aw cj) H f J J J J fun _ cu ah ct=>?_
   have ai:=(G.vN ah)
   refine so aA ai (a5 dg eh fm fg) ct p J J J J fun _ _ Z gg=>(mv 1 J (aX (dC (aO (sr (pf I 1 J (bB J J (bM dS (cu.vN Z) J) ?_)))))))
   have L235a:(wd (rK m)).length≤1048576:=by have h:=pK hm0 Lm;rw [kP] at h;exact a8 h (by decide)
   have L235b:(wd (Int.natAbs ((m-1)/2)-rK m*rK m)).length≤1048576:=a8 (gK (Nat.sub_le _ _)) (a8 (dZ (by omega)) Lm)
   refine cl (vs:= [we bm aw cj]) gg (TB gg.size hm0 (W0 hm0) ((M.updT o ah).updT ai Z).zi.wi (M.le (a8 (a8 (dZ (by omega)) Lm) (by decide)))) J (by kernel_rfl) fun _ _ fk dt im=>?_
   obtain⟨_,_,rfl,⟨E,D,q,rfl,df,fe⟩,⟨fb,ew,dr,rfl,_,_⟩⟩:=fk
   refine mv 1 J (pu (v:= we E D q) J (pu (v:= we fb ew dr) J (mv 2 J (a7 (sr (mv 1 J (pu (v:= .agg #[F0,we E D q]) J ?_)))))))
   have ae:=((((((dh.ext dy).vN gn).ext bd).vN ah).vN Z).ext dt)
   refine so aA ae [F0,we E D q] im fx J J J J fun _ cv fw ic=>(a7 (aV (aU [.agg #[F0,we E D q]] J ⟨⟨_,rfl,bH aA cv [F0,we E D q] J (bq J) rfl⟩,AT⟩ ?_)))
   exact⟨_,rfl,⟨_,_,_,_,rfl,((pY df fe).updT ae fw)⟩,ic⟩
theorem SV {nb cb:Nat}(hb:b≤w.heap.size)(hr:Zi w sa Aa na ca r)(la:na≤1048576)(hm:Zi w sb Ab nb cb m)(lb:nb≤1048576):aP aN 94 #[O sa Aa na ca,O sb Ab nb cb] w (Gv w (T2 (FR b (kB m r) (kC m r)) (Is (no (j9 m r))))):=by
 refine Calls.mono (R:=Gv w (T2 (FR w.heap.size (kB m r) (kC m r)) (Is (no (j9 m r))))) ?_ (Gv.imp (T2.imp (FR.imp hb) Is.imp))
 have Lr:ln r≤1048576:=a8 hr.ln la
 have Lm:ln m≤1048576:=a8 hm.ln lb
 refine bN Tryz.func94 J (n:=90) J (bq J) (args:= [O sa Aa na ca,O sb Ab nb cb]) (bG [(0,O sa Aa na ca),(1,O sb Ab nb cb)] ⟨rfl,rfl,AT⟩ (sr (bx (a5 sa Aa na ca) (Ext.refl w) J J J fun g1 _ mg _ _ fi=>(fG (a5 sb Ab nb cb) fi mg.lt J J J fun g6 _ fh _ _ e8 du=>(bL [F0,S0,F0,S0] du fh.lt (fun _=>by kernel_rfl) J fun gn _ jb fd _ em bp=>(mv 1 J (a7 (aD (aD ?_)))))))))
 by_cases bg:0<m
 ·refine aF (lo aA (fh.ext em) (a5 sb Ab nb cb) J J J (cl (vs:= [O sb Ab nb cb]) bp (eV (hm.ext bp) (aK lb J)) J (by kernel_rfl) fun _ _ xu fb H=>?_))
  obtain rfl:=xu
  refine aI J J J false (BK bg) (a7 (aQ J (aY (aO (sr (lo aA (fh.ext (em.t fb)) (a5 sb Ab nb cb) J J J (cl (vs:= [O sb Ab nb cb]) H (SQ H.size (hm.ext H) (aK lb J) bg) J (by kernel_rfl) fun _ _ xp fv D=>?_)))))))
  obtain⟨ap,ao,ak,am,rfl,xn⟩:=xp
  refine bL [F0,S0] D (jb.ext (fb.t fv)).lt (fun _=>by kernel_rfl) J fun gg _ kc ss _ fm I=>(so aA kc (a5 ap ao ak am) I ss J J J J fun _ kd ft fq=>(a7 (sr (lo aA ((fh.ext (em.t (fb.t (fv.t fm)))).vN ft) (a5 sb Ab nb cb) J J J (cl (vs:= [O sb Ab nb cb]) fq (D4 fq.size (hm.ext fq) (aK lb J)) J (by kernel_rfl) fun _ _ xq en pr=>?_)))))
  obtain⟨vc,ug,ud,wm,rfl,xt⟩:=xq
  refine bL [F0,S0] pr (kd.ext en).lt (fun _=>by kernel_rfl) J fun nt _ ic jr _ fc gi=>(so aA ic (a5 vc ug ud wm) gi jr J J J J fun _ ks ei ar=>(a7 (sr (lo aA ((((mg.ext (e8.t (em.t (fb.t (fv.t fm))))).vN ft).ext (en.t fc)).vN ei) (a5 sa Aa na ca) J J J (lo aA ((((fh.ext (em.t (fb.t (fv.t fm)))).vN ft).ext (en.t fc)).vN ei) (a5 sb Ab nb cb) J J J (cl (vs:= [O sa Aa na ca,O sb Ab nb cb]) ar (VN ar.size (hr.ext ar) (aK la J) (hm.ext ar) (aK lb J) (show m≠0 by omega)) J (by kernel_rfl) fun _ _ xi el ew=>?_))))))
  obtain⟨_,_,rfl,⟨kv,me,mf,ro,rfl,xh⟩,rfl⟩:=xi
  refine mv 1 J (pu (v:= O kv me mf ro) J (pu (v:= no 0) J (bL [F0,S0] ew (ks.ext el).lt (fun _=>by kernel_rfl) J fun gk _ ga ix _ ej iw=>(so aA ga (a5 kv me mf ro) iw ix J J J J fun _ kp dy fy=>(mv 1 J (a7 (sr (cl (vs:= [I0]) fy (lK (n:=0) fy.size) J (by kernel_rfl) fun _ _ xg cz sx=>?_))))))))
  obtain⟨vo,ub,tu,vh,rfl,xe⟩:=xg
  refine bL [F0,S0] sx (kp.ext cz).lt (fun _=>by kernel_rfl) J fun pz _ ez ki _ cv te=>(so aA ez (a5 vo ub tu vh) te ki J J J J fun _ jz cu ke=>(a7 (sr (cl (vs:= [no 1]) ke (lK (n:=1) ke.size) J (by kernel_rfl) fun _ _ xk cp vg=>?_))))
  obtain⟨vi,sc,wg,rt,rfl,xr⟩:=xk
  refine bL [F0,S0] vg (jz.ext cp).lt (fun _=>by kernel_rfl) J fun gj _ de iy _ ck uu=>(so aA de (a5 vi sc wg rt) uu iy J J J J fun xo ua cm vf=>(a7 (aD (bO ?_))))
  refine d8 (T:=a6×Int×Int×Int×Int×ZC×ZC×ZC×ZC)
   (fun⟨wr,x,y,t,u,k0,k1,k2,f⟩=> [(2,i5 g1 0),(3,i5 g6 0),(4,i5 gn 0),(5,no 0),(6,i5 gg 0),(7,i5 nt 0),(8,i5 gk 0),(10,i5 pz 0),(11,i5 gj 0)])
   (fun⟨wr,x,y,t,u,k0,k1,k2,f⟩=>wr)
   (fun⟨wr,x,y,t,u,k0,k1,k2,f⟩=>(Ext w wr)∧(RecI m r x y t u)∧(hJ (rK m) y.toNat x y t u=mM m r)∧(Bk wr g1 24 (a5 sa Aa na ca))∧(Bk wr g6 24 (a5 sb Ab nb cb))∧(Bk wr gn 52 [F0,S0,F0,S0])∧(Bk wr gg 24 (a5 ap ao ak am))∧(Bk wr nt 24 (a5 k0.s k0.A k0.n k0.c))∧(Bk wr pz 24 (a5 k2.s k2.A k2.n k2.c))∧(Bk wr gk 24 (a5 k1.s k1.A k1.n k1.c))∧(Bk wr gj 24 (a5 f.s f.A f.n f.c))∧(Zr wr w.heap.size ap ao ak am ((rK m:Nat):Int))∧(Zr wr w.heap.size k0.s k0.A k0.n k0.c x)∧(Zr wr w.heap.size k1.s k1.A k1.n k1.c y)∧(Zr wr w.heap.size k2.s k2.A k2.n k2.c t)∧(Zr wr w.heap.size f.s f.A f.n f.c u))
   (fun⟨wr,x,y,t,u,k0,k1,k2,f⟩=>y.natAbs)
   (⟨xo,_,_,_,_,⟨vc,ug,ud,wm⟩,⟨kv,me,mf,ro⟩,⟨vo,ub,tu,vh⟩,⟨vi,sc,wg,rt⟩⟩:a6×Int×Int×Int×Int×ZC×ZC×ZC×ZC) ⟨vf,RecI.init8 bg,rfl,((((((((((mg.ext (e8.t (em.t (fb.t (fv.t fm))))).vN ft).ext (en.t fc)).vN ei).ext (el.t ej)).vN dy).ext (cz.t cv)).vN cu).ext (cp.t ck)).vN cm),((((((((((fh.ext (em.t (fb.t (fv.t fm)))).vN ft).ext (en.t fc)).vN ei).ext (el.t ej)).vN dy).ext (cz.t cv)).vN cu).ext (cp.t ck)).vN cm),((((((((((jb.ext (fb.t (fv.t fm))).vN ft).ext (en.t fc)).vN ei).ext (el.t ej)).vN dy).ext (cz.t cv)).vN cu).ext (cp.t ck)).vN cm),((((((((kd.ext (en.t fc)).vN ei).ext (el.t ej)).vN dy).ext (cz.t cv)).vN cu).ext (cp.t ck)).vN cm),((((((ks.ext (el.t ej)).vN dy).ext (cz.t cv)).vN cu).ext (cp.t ck)).vN cm),((jz.ext (cp.t ck)).vN cm),((((kp.ext (cz.t cv)).vN cu).ext (cp.t ck)).vN cm),ua,((((((((((xn.ext fm).updT kc ft).ext (en.t fc)).updT ic ei).ext (el.t ej)).updT ga dy).ext (cz.t cv)).updT ez cu).ext (cp.t ck)).updT de cm),((((((((xt.ext fc).updT ic ei).ext (el.t ej)).updT ga dy).ext (cz.t cv)).updT ez cu).ext (cp.t ck)).updT de cm),((((((xh.ext ej).updT ga dy).ext (cz.t cv)).updT ez cu).ext (cp.t ck)).updT de cm),((((xe.ext cv).updT ez cu).ext (cp.t ck)).updT de cm),((xr.ext ck).updT de cm)⟩ J ⟨rfl,rfl,rfl,rfl,rfl,rfl,rfl,rfl,rfl,AT⟩ ?_
  rintro⟨wr,x,y,t,u,k0,k1,k2,f⟩ ⟨fi,hI,hR,b_2,b_3,b_4,b_6,b_7,b_10,b_8,b_11,zkk,uz,bh,vd,F⟩
  refine cR [(2,i5 g1 0),(3,i5 g6 0),(4,i5 gn 0),(5,no 0),(6,i5 gg 0),(7,i5 nt 0),(8,i5 gk 0),(10,i5 pz 0),(11,i5 gj 0)] wr J ⟨rfl,rfl,rfl,rfl,rfl,rfl,rfl,rfl,rfl,AT⟩ ?_
  have Lx:ln x≤4194305:=a8 (hI.ln_x) (aK Lm J)
  have Ly:ln y≤4194305:=a8 (hI.ln_y) (aK Lm J)
  have Lt:ln t≤4194305:=a8 (hI.ln_t bg) (aK Lm J)
  have Lu:ln u≤4194305:=a8 (hI.ln_u bg) (aK Lm J)
  refine aD (aD ?_)
  by_cases lw:((rK m:Nat):Int)<y
  ·refine aF (lo aA b_8 (a5 k1.s k1.A k1.n k1.c) J J J (lo aA b_6 (a5 ap ao ak am) J J J (cl (vs:= [O k1.s k1.A k1.n k1.c,O ap ao ak am]) fi (kS bh.zi (bh.le (aK Ly J)) zkk.zi (zkk.le (a8 (pK bg Lm) (by decide)))) J (by kernel_rfl) fun _ _ xb fB du=>?_)))
   obtain rfl:=xb
   refine aI J J J true (uQ lw) (a7 (aW J (aY (aO (bO (sr (lo aA (b_7.ext fB) (a5 k0.s k0.A k0.n k0.c) J J J (lo aA (b_8.ext fB) (a5 k1.s k1.A k1.n k1.c) J J J ?_))))))))
   have fz:ln (x.tdiv y)≤4194305:=V4 Lx
   have ya:ln (x.tmod y)≤4194305:=V3 (show y≠0 by omega) Ly
   refine dQ J J (vs:= [O k0.s k0.A k0.n k0.c,O k1.s k1.A k1.n k1.c]) (by kernel_rfl) (by decide) (by have h:=CQ du.size (uz.ext fB).zi (uz.le (aK Lx J)) (bh.ext fB).zi (bh.le (aK Ly J)) (show y≠0 by omega);rw [←Int.tdiv_eq_ediv_of_nonneg hI.x0,←Int.tmod_eq_emod_of_nonneg hI.x0] at h;exact h) ?_
   rintro _ _ ⟨_,rfl,vu,aa⟩
   refine dR ?_
   have bp:=du.trans aa
   obtain⟨_,_,_,rfl,⟨ey,fe,ef,eg,rfl,kb⟩,⟨fg,dz,eh,fa,rfl,va⟩,rfl⟩:=vu
   refine mv 1 J (pu (v:= O ey fe ef eg) J (pu (v:= O fg dz eh fa) J (pu (v:= no 0) J (bL [F0,S0] bp (b_11.ext (fB.t aa)).lt (fun _=>by kernel_rfl) J fun _ _ ik mj _ X H=>(bL [F0,S0] H ik.lt (fun _=>by kernel_rfl) J fun vw _ qu ox _ L D=>?_)))))
   have ba:=(ik.ext L)
   refine so aA ba (a5 ey fe ef eg) D mj J J J J fun _ pt W I=>?_
   have av:=(qu.vN W)
   refine so aA av (a5 fg dz eh fa) I ox J J J J fun _ gx V fq=>(mv 1 J (a7 (sr (lo aA (((b_8.ext (fB.t (aa.t (X.t L)))).vN W).vN V) (a5 k1.s k1.A k1.n k1.c) J J J ?_))))
   have az:=(((b_7.ext (fB.t (aa.t (X.t L)))).vN W).vN V)
   refine so aA az (a5 k1.s k1.A k1.n k1.c) fq jr J J J J fun _ qo M pr=>(a7 (sr (lo aA (gx.vN M) (a5 fg dz eh fa) J J J ?_)))
   have aw:=((((b_8.ext (fB.t (aa.t (X.t L)))).vN W).vN V).vN M)
   refine so aA aw (a5 fg dz eh fa) pr ix J J J J fun uk ky Z gi=>(a7 (aD ?_))
   have xz:ln (t-x.tdiv y*u)≤8388611:=a8 (jT Lt (cK fz Lu)) (by decide)
   refine dG bY 6 [] [Is (O k2.s k2.A k2.n k2.c),Is (O ey fe ef eg),Is (O f.s f.A f.n f.c),ZR w.heap.size (x.tdiv y*u),ZR w.heap.size (t-x.tdiv y*u),PR uk.heap.size 24 [F0,S0]] [[],[],[],[1,2],[0,3],[]] [[],[],[],[1,2],[0,1,2,3],[],[0,1,2,3,4,5]] rfl
    (aH J J (aE J J ?_) (aH J J (aE J J ?_) (aH J J (aE J J ?_) (aH J J (aE J J ?_) (aH J J (aE J J ?_) (aH J J (aE J J ?_) d9)))))) ?_
   ·exact fun _ vz=>aC (lo aA ((((((b_10.ext (fB.t (aa.t (X.t L)))).vN W).vN V).vN M).vN Z).ext vz) (a5 k2.s k2.A k2.n k2.c) J J J (aG J aL J))
   ·exact fun _ wh=>aC (lo aA ((((pt.vN V).vN M).vN Z).ext wh) (a5 ey fe ef eg) J J J (aG J aL J))
   ·exact fun _ vq=>aC (lo aA ((((((b_11.ext (fB.t (aa.t (X.t L)))).vN W).vN V).vN M).vN Z).ext vq) (a5 f.s f.A f.n f.c) J J J (aG J aL J))
   ·intro _ io
    have ar:=gi.trans io
    refine dk J J (dk J J (aC (cl (vs:= [O ey fe ef eg,O f.s f.A f.n f.c]) ar (pS ar.size ((((((kb.ext (X.t L)).updT ba W).updT av V).updT az M).updT aw Z).ext io).zi (kb.le (aK fz J)) ((((((F.ext (fB.t (aa.t (X.t L)))).updT ba W).updT av V).updT az M).updT aw Z).ext io).zi (F.le (aK Lu J))) J (by kernel_rfl) fun _ _ uf sm ew=>?_)))
    obtain⟨_,_,_,_,rfl,ww⟩:=uf
    exact aG J sm ⟨_,_,_,_,rfl,ww⟩
   ·intro _ kk
    have ar:=gi.trans kk
    refine dk J J (aT J J fun _ _ tw _ vb=>?_)
    obtain⟨ue,tp,ur,uy,rfl,fx⟩:=tw
    have fx:=fx.ext vb
    refine aC ?_
    have yb:ln (t-x.tdiv y*u)≤8388611:=a8 (jT Lt (cK fz Lu)) (by decide)
    refine cl (vs:= [O k2.s k2.A k2.n k2.c,O ue tp ur uy]) ar (yK ar.size ((((((vd.ext (fB.t (aa.t (X.t L)))).updT ba W).updT av V).updT az M).updT aw Z).ext kk).zi (vd.le (aK Lt J)) fx.zi (fx.le (a8 (cK fz Lu) (by decide)))) J (by kernel_rfl) fun _ _ tq ta ew=>?_
    obtain⟨_,_,_,_,rfl,sw⟩:=tq
    exact aG J ta ⟨_,_,_,_,rfl,sw⟩
   ·intro _ ut
    refine aC (iH J (z:= .agg #[F0,S0]) (vs:= [F0,S0]) (fun _=>by kernel_rfl) J fun _ _ nb=>?_)
    exact aG J nb.ext ⟨_,rfl,by rw [←nb.at_];exact ut.size,nb.bk⟩
   ·intro _ ai
    have ar:=gi.trans ai
    refine dk J J (dk J J (dk J J (aT J J fun _ _ tf _ uj=>?_)))
    obtain⟨_,_,_,_,rfl,kr⟩:=tf
    have kr:=kr.ext uj
    refine aT J J fun _ _ sj _ uw=>?_
    obtain⟨gb,ge,gc,gf,rfl,ig⟩:=sj
    have ig:=ig.ext uw
    refine aT J J fun _ _ tx _ wk=>?_
    obtain⟨ko,rfl,dw,bd⟩:=tx
    have bd:=bd.ext wk
    have xv:vw<ko:=dJ ((gx.vN M).vN Z).lt dw
    have dw:w.heap.size≤ko:=a8 gi.size dw
    refine aC (so aA bd (a5 gb ge gc gf) ar dw J J J J fun _ qf aj ew=>(aX (dC (aO (sr (lo aA (((((((b_11.ext (fB.t (aa.t (X.t L)))).vN W).vN V).vN M).vN Z).ext ai).vN aj) (a5 f.s f.A f.n f.c) J J J ?_))))))
    have ch:=(((((((b_10.ext (fB.t (aa.t (X.t L)))).vN W).vN V).vN M).vN Z).ext ai).vN aj)
    refine so aA ch (a5 f.s f.A f.n f.c) ew ki J J J J fun _ rk aq iw=>(a7 (aF (lo aA (qf.vN aq) (a5 gb ge gc gf) J J J ?_)))
    have bu:=((((((((b_11.ext (fB.t (aa.t (X.t L)))).vN W).vN V).vN M).vN Z).ext ai).vN aj).vN aq)
    refine so aA bu (a5 gb ge gc gf) iw iy J J J J fun wp ph au fy=>(aX (bQ (cM (⟨wp,_,_,_,_,⟨k1.s,k1.A,k1.n,k1.c⟩,⟨fg,dz,eh,fa⟩,⟨f.s,f.A,f.n,f.c⟩,⟨gb,ge,gc,gf⟩⟩:a6×Int×Int×Int×Int×ZC×ZC×ZC×ZC) ⟨fy,hI.step (by omega),HU hI.x0 lw hR,(((((((((b_2.ext (fB.t (aa.t (X.t L)))).vN W).vN V).vN M).vN Z).ext ai).vN aj).vN aq).vN au),(((((((((b_3.ext (fB.t (aa.t (X.t L)))).vN W).vN V).vN M).vN Z).ext ai).vN aj).vN aq).vN au),(((((((((b_4.ext (fB.t (aa.t (X.t L)))).vN W).vN V).vN M).vN Z).ext ai).vN aj).vN aq).vN au),(((((((((b_6.ext (fB.t (aa.t (X.t L)))).vN W).vN V).vN M).vN Z).ext ai).vN aj).vN aq).vN au),(((((qo.vN Z).ext ai).vN aj).vN aq).vN au),(rk.vN au),((((ky.ext ai).vN aj).vN aq).vN au),ph,(((((((((zkk.ext (fB.t (aa.t (X.t L)))).updT ba W).updT av V).updT az M).updT aw Z).ext ai).updT bd aj).updT ch aq).updT bu au),(((((((((bh.ext (fB.t (aa.t (X.t L)))).updT ba W).updT av V).updT az M).updT aw Z).ext ai).updT bd aj).updT ch aq).updT bu au),(((((((((va.ext (X.t L)).updT ba W).updT av V).updT az M).updT aw Z).ext ai).updT bd aj).updT ch aq).updT bu au),(((((((((F.ext (fB.t (aa.t (X.t L)))).updT ba W).updT av V).updT az M).updT aw Z).ext ai).updT bd aj).updT ch aq).updT bu au),(((ig.updT bd aj).updT ch aq).updT bu au)⟩ (kL (x:=x) (show y≠0 by omega)) J ⟨rfl,rfl,rfl,rfl,rfl,rfl,rfl,rfl,rfl,AT⟩)))
  ·have hv:=HW lw hR
   refine aF (lo aA b_8 (a5 k1.s k1.A k1.n k1.c) J J J (lo aA b_6 (a5 ap ao ak am) J J J (cl (vs:= [O k1.s k1.A k1.n k1.c,O ap ao ak am]) fi (kS bh.zi (bh.le (aK Ly J)) zkk.zi (zkk.le (a8 (pK bg Lm) (by decide)))) J (by kernel_rfl) fun _ _ tg G du=>?_)))
   obtain rfl:=tg
   refine aI J J J false (oF) (a7 (aQ J (d4 (cU (cY (cZ (aO (rU (T:=a6×Int×Int×ZC×ZC) (fun⟨wr,Y,U,k1,f⟩=> [(2,i5 g1 0),(3,i5 g6 0),(4,i5 gn 0),(5,no 0),(6,i5 gg 0),(8,i5 gk 0),(11,i5 gj 0)]) (fun⟨wr,Y,U,k1,f⟩=>wr) (fun⟨wr,Y,U,k1,f⟩=>(Ext w wr)∧(iP m r=(Y,U))∧(U≠0)∧(ln Y≤4194305)∧(ln U≤4194305)∧(Bk wr g1 24 (a5 sa Aa na ca))∧(Bk wr g6 24 (a5 sb Ab nb cb))∧(Bk wr gn 52 [F0,S0,F0,S0])∧(Bk wr gg 24 (a5 ap ao ak am))∧(Bk wr gk 24 (a5 k1.s k1.A k1.n k1.c))∧(Bk wr gj 24 (a5 f.s f.A f.n f.c))∧(Zr wr w.heap.size ap ao ak am ((rK m:Nat):Int))∧(Zr wr w.heap.size k1.s k1.A k1.n k1.c Y)∧(Zr wr w.heap.size f.s f.A f.n f.c U)) ?_ ?_))))))))
   ·refine aD ?_
    by_cases hu:u<0
    ·refine aF (lo aA (b_11.ext G) (a5 f.s f.A f.n f.c) J J J (cl (vs:= [O f.s f.A f.n f.c]) du (eV (F.ext G).zi (F.le (aK Lu J))) J (by kernel_rfl) fun _ _ ru bf bp=>?_))
     obtain rfl:=ru
     refine aI J J J true (sW hu) (a7 (aW J (sr (lo aA (b_11.ext (G.t bf)) (a5 f.s f.A f.n f.c) J J J (cl (vs:= [O f.s f.A f.n f.c]) bp (KJ bp.size (F.ext (G.t bf)).zi (F.le (aK Lu J))) J (by kernel_rfl) fun _ _ uo bm H=>?_)))))
     obtain⟨ku,kt,kj,kg,rfl,uq⟩:=uo
     have df:=(b_11.ext (G.t (bf.t bm)))
     refine so aA df (a5 ku kt kj kg) H iy J J J J fun _ rn bo D=>(a7 (aF (lo aA ((b_8.ext (G.t (bf.t bm))).vN bo) (a5 k1.s k1.A k1.n k1.c) J J J (cl (vs:= [O k1.s k1.A k1.n k1.c]) D (KJ D.size ((bh.ext (G.t (bf.t bm))).updT df bo).zi (bh.le (aK Ly J))) J (by kernel_rfl) fun _ _ ti cj I=>?_))))
     obtain⟨kf,kn,jv,ka,rfl,tn⟩:=ti
     have dx:=(((b_8.ext (G.t (bf.t bm))).vN bo).ext cj)
     refine so aA dx (a5 kf kn jv ka) I ix J J J J fun tv nu ci fq=>(aX (dO (⟨tv,-y,-u,⟨kf,kn,jv,ka⟩,⟨ku,kt,kj,kg⟩⟩:a6×Int×Int×ZC×ZC) ⟨fq,HJ hv hu,(by have:=hI.u0;omega),(by rw [g0];exact Ly),(by rw [g0];exact Lu),((((b_2.ext (G.t (bf.t bm))).vN bo).ext cj).vN ci),((((b_3.ext (G.t (bf.t bm))).vN bo).ext cj).vN ci),((((b_4.ext (G.t (bf.t bm))).vN bo).ext cj).vN ci),((((b_6.ext (G.t (bf.t bm))).vN bo).ext cj).vN ci),nu,((rn.ext cj).vN ci),((((zkk.ext (G.t (bf.t bm))).updT df bo).ext cj).updT dx ci),(tn.updT dx ci),(((uq.updT df bo).ext cj).updT dx ci)⟩ J ⟨rfl,rfl,rfl,rfl,rfl,rfl,rfl,AT⟩))
    ·refine aF (lo aA (b_11.ext G) (a5 f.s f.A f.n f.c) J J J (cl (vs:= [O f.s f.A f.n f.c]) du (eV (F.ext G).zi (F.le (aK Lu J))) J (by kernel_rfl) fun _ rz tj bj bp=>?_))
     obtain rfl:=tj
     refine aI J J J false (sX) (a7 (aQ J (aY (dO (⟨rz,y,u,⟨k1.s,k1.A,k1.n,k1.c⟩,⟨f.s,f.A,f.n,f.c⟩⟩:a6×Int×Int×ZC×ZC) ⟨bp,HH hv hu,(by have:=hI.u0;omega),Ly,Lu,(b_2.ext (G.t bj)),(b_3.ext (G.t bj)),(b_4.ext (G.t bj)),(b_6.ext (G.t bj)),(b_8.ext (G.t bj)),(b_11.ext (G.t bj)),(zkk.ext (G.t bj)),(bh.ext (G.t bj)),(F.ext (G.t bj))⟩ J ⟨rfl,rfl,rfl,rfl,rfl,rfl,rfl,AT⟩))))
   ·rintro⟨wr,Y,U,k1,f⟩ ⟨fi,hS,jj,LY,LU,b_2,b_3,b_4,b_6,b_8,b_11,zkk,bh,F⟩
    refine cR [(2,i5 g1 0),(3,i5 g6 0),(4,i5 gn 0),(5,no 0),(6,i5 gg 0),(8,i5 gk 0),(11,i5 gj 0)] wr J ⟨rfl,rfl,rfl,rfl,rfl,rfl,rfl,AT⟩ (sr (cl (vs:= [no 1]) fi (lK (n:=1) fi.size) J (by kernel_rfl) fun _ _ uc q du=>?_))
    obtain⟨ae,ah,ag,ab,rfl,bi⟩:=uc
    refine bL [F0,S0] du (b_11.ext q).lt (fun _=>by kernel_rfl) J fun _ _ E mt _ o bp=>(so aA E (a5 ae ah ag ab) bp mt J J J J fun _ ct p H=>(a7 (aD (aD ?_))))
    by_cases h1:((rK m:Nat):Int)<U
    ·have hE:=t8 bg hS (fun hc=>hc.1 h1)
     refine dG bY 25 [] [Is (O f.s f.A f.n f.c),Is (no (bE U 0)),Is (AS),Is (AS),Is (O f.s f.A f.n f.c),Is (O ap ao ak am),Is (no (bE U ((rK m:Nat):Int))),Is (AI),Is (AI),Is (AI),Is (undef),Is (undef),Is (undef),Is (undef),Is (undef),Is (undef),Is (AI),Is (AI),Is (undef),Is (undef),Is (undef),Is (undef),Is (undef),Is (undef),Is (AI)] [[],[0],[1],[2],[3],[3],[3,4,5],[3,6],[3,7],[8],[9],[9],[9,10,11],[9],[9,12,13],[9,14],[9,15],[16],[17],[17],[17,18,19],[17],[17,20,21],[17,22],[17,23]] [[],[0],[0,1],[0,1,2],[0,1,2,3],[0,1,2,3],[0,1,2,3,4,5],[0,1,2,3,4,5,6],[0,1,2,3,4,5,6,7],[0,1,2,3,4,5,6,7,8],[0,1,2,3,4,5,6,7,8,9],[0,1,2,3,4,5,6,7,8,9],[0,1,2,3,4,5,6,7,8,9,10,11],[0,1,2,3,4,5,6,7,8,9],[0,1,2,3,4,5,6,7,8,9,10,11,12,13],[0,1,2,3,4,5,6,7,8,9,10,11,12,13,14],[0,1,2,3,4,5,6,7,8,9,10,11,12,13,14,15],[0,1,2,3,4,5,6,7,8,9,10,11,12,13,14,15,16],[0,1,2,3,4,5,6,7,8,9,10,11,12,13,14,15,16,17],[0,1,2,3,4,5,6,7,8,9,10,11,12,13,14,15,16,17],[0,1,2,3,4,5,6,7,8,9,10,11,12,13,14,15,16,17,18,19],[0,1,2,3,4,5,6,7,8,9,10,11,12,13,14,15,16,17],[0,1,2,3,4,5,6,7,8,9,10,11,12,13,14,15,16,17,18,19,20,21],[0,1,2,3,4,5,6,7,8,9,10,11,12,13,14,15,16,17,18,19,20,21,22],[0,1,2,3,4,5,6,7,8,9,10,11,12,13,14,15,16,17,18,19,20,21,22,23]] rfl
      (aH J J (aE J J ?_) (aH J J (aE J J ?_) (aH J J (aE J J ?_) (aH J J (aE J J ?_) (aH J J (aE J J ?_) (aH J J (aE J J ?_) (aH J J (aE J J ?_) (aH J J (aE J J ?_) (aH J J (aE J J ?_) (aH J J (aE J J ?_) (aH J J (aE J J ?_) (aH J J (aE J J ?_) (aH J J (aE J J ?_) (aH J J (aE J J ?_) (aH J J (aE J J ?_) (aH J J (aE J J ?_) (aH J J (aE J J ?_) (aH J J (aE J J ?_) (aH J J (aE J J ?_) (aH J J (aE J J ?_) (aH J J (aE J J ?_) (aH J J (aE J J ?_) (aH J J (aE J J ?_) (aH J J (aE J J ?_) (aH J J (aE J J ?_) d9))))))))))))))))))))))))) ?_
     ·exact fun _ ui=>aC (lo aA (((b_11.ext (q.t o)).vN p).ext ui) (a5 f.s f.A f.n f.c) J J J (aG J aL J))
     ·intro _ jt
      have D:=H.trans jt
      refine dk J J (aC (cl (vs:= [O f.s f.A f.n f.c]) D (eV (((F.ext (q.t o)).updT E p).ext jt).zi (F.le (aK LU J))) J (by kernel_rfl) fun _ _ tk vk I=>?_))
      obtain rfl:=tk
      exact aG J vk rfl
     ·exact fun _ _=>dk J J (aC (aI J J J false (qW jj) (aG J aL J)))
     ·exact fun _ _=>dk J J (aC (mv 1 J (aG J aL J)))
     ·exact fun _ tr=>dk J J (aC (lo aA (((b_11.ext (q.t o)).vN p).ext tr) (a5 f.s f.A f.n f.c) J J J (aG J aL J)))
     ·exact fun _ ve=>dk J J (aC (lo aA (((b_6.ext (q.t o)).vN p).ext ve) (a5 ap ao ak am) J J J (aG J aL J)))
     ·intro _ ie
      have D:=H.trans ie
      refine dk J J (dk J J (dk J J (aC (cl (vs:= [O f.s f.A f.n f.c,O ap ao ak am]) D (kS (((F.ext (q.t o)).updT E p).ext ie).zi (F.le (aK LU J)) (((zkk.ext (q.t o)).updT E p).ext ie).zi (zkk.le (a8 (pK bg Lm) (by decide)))) J (by kernel_rfl) fun _ _ vm um I=>?_))))
      obtain rfl:=vm
      exact aG J um rfl
     ·exact fun _ _=>dk J J (dk J J (aC (aI J J J true (uQ h1) (aG J aL J))))
     ·exact fun _ _=>dk J J (dk J J (aC (pu (v:= AI) J (aG J aL J))))
     ·exact fun _ _=>dk J J (aC (mv 1 J (aG J aL J)))
     ·exact fun _ _=>dk J J (aC (mv 1 J (aG J aL J)))
     ·exact fun _ _=>dk J J (aC (mv 1 J (aG J aL J)))
     ·exact fun _ _=>dk J J (dk J J (dk J J (aC (mv 1 J (aG J aL J)))))
     ·exact fun _ _=>dk J J (aC (mv 1 J (aG J aL J)))
     ·exact fun _ _=>dk J J (dk J J (dk J J (aC (mv 1 J (aG J aL J)))))
     ·exact fun _ _=>dk J J (dk J J (aC (mv 1 J (aG J aL J))))
     ·exact fun _ _=>dk J J (dk J J (aC (pu (v:= AI) J (aG J aL J))))
     ·exact fun _ _=>dk J J (aC (mv 1 J (aG J aL J)))
     ·exact fun _ _=>dk J J (aC (mv 1 J (aG J aL J)))
     ·exact fun _ _=>dk J J (aC (mv 1 J (aG J aL J)))
     ·exact fun _ _=>dk J J (dk J J (dk J J (aC (mv 1 J (aG J aL J)))))
     ·exact fun _ _=>dk J J (aC (mv 1 J (aG J aL J)))
     ·exact fun _ _=>dk J J (dk J J (dk J J (aC (mv 1 J (aG J aL J)))))
     ·exact fun _ _=>dk J J (dk J J (aC (mv 1 J (aG J aL J))))
     ·exact fun _ _=>dk J J (dk J J (aC (pu (v:= AI) J (aG J aL J))))
     ·intro _ jy
      have D:=H.trans jy
      refine dk J J (dk J J (dk J J (dk J J (dk J J (dk J J (dk J J (dk J J (dk J J (dk J J (dk J J (dk J J (dk J J (dk J J ?_)))))))))))))
      refine dk J J (dk J J (dk J J (dk J J (dk J J (dk J J (dk J J (dk J J (dk J J (dk J J (dk J J (aC (aX (dC ?_)))))))))))))
      refine aO (aW J (sr (pu (v:= .agg #[F0,S0,F0,S0]) J ?_)))
      have qi:=(((b_4.ext (q.t o)).vN p).ext jy)
      refine so bC qi [F0,S0,F0,S0] D fd J J J J fun jq mo _ I=>(mv 1 J (a7 (aV (bR (aU [.agg #[F0,S0,F0,S0],no 6] J ⟨⟨_,rfl,bH bC mo [F0,S0,F0,S0] J (bq J) rfl⟩,rfl,AT⟩ ?_)))))
      exact⟨_,rfl,⟨_,_,rfl,⟨_,_,_,_,_,_,_,_,rfl,((Zr.zero (w:=jq) (base:=w.heap.size))).cast (by rw [hE.1]),((Zr.zero (w:=jq) (base:=w.heap.size))).cast (by rw [hE.2.1])⟩,(show (no 6:aM)=_ by rw [hE.2.2])⟩,I⟩
    ·by_cases h2:Int.gcd U m≠1
     ·have hE:=t8 bg hS (fun hc=>h2 hc.2.2)
      have sz:ln ((Int.gcd U m:Int))≤4194305:=a8 (gU _ _) (Nat.max_le.2 ⟨a8 LU (by decide),a8 Lm (by decide)⟩)
      refine dG bY 25 [] [Is (O f.s f.A f.n f.c),Is (no (bE U 0)),Is (AS),Is (AS),Is (O f.s f.A f.n f.c),Is (O ap ao ak am),Is (no (bE U ((rK m:Nat):Int))),Is (AS),Is (AS),Is (AS),Is (O f.s f.A f.n f.c),Is (O sb Ab nb cb),ZR w.heap.size ((Int.gcd U m:Int)),Is (O ae ah ag ab),Is (no (bE (Int.gcd U m:Int) 1)),Is (AI),Is (AI),Is (AI),Is (undef),Is (undef),Is (undef),Is (undef),Is (undef),Is (undef),Is (AI)] [[],[0],[1],[2],[3],[3],[3,4,5],[3,6],[3,7],[8],[9],[9],[9,10,11],[9],[9,12,13],[9,14],[9,15],[16],[17],[17],[17,18,19],[17],[17,20,21],[17,22],[17,23]] [[],[0],[0,1],[0,1,2],[0,1,2,3],[0,1,2,3],[0,1,2,3,4,5],[0,1,2,3,4,5,6],[0,1,2,3,4,5,6,7],[0,1,2,3,4,5,6,7,8],[0,1,2,3,4,5,6,7,8,9],[0,1,2,3,4,5,6,7,8,9],[0,1,2,3,4,5,6,7,8,9,10,11],[0,1,2,3,4,5,6,7,8,9],[0,1,2,3,4,5,6,7,8,9,10,11,12,13],[0,1,2,3,4,5,6,7,8,9,10,11,12,13,14],[0,1,2,3,4,5,6,7,8,9,10,11,12,13,14,15],[0,1,2,3,4,5,6,7,8,9,10,11,12,13,14,15,16],[0,1,2,3,4,5,6,7,8,9,10,11,12,13,14,15,16,17],[0,1,2,3,4,5,6,7,8,9,10,11,12,13,14,15,16,17],[0,1,2,3,4,5,6,7,8,9,10,11,12,13,14,15,16,17,18,19],[0,1,2,3,4,5,6,7,8,9,10,11,12,13,14,15,16,17],[0,1,2,3,4,5,6,7,8,9,10,11,12,13,14,15,16,17,18,19,20,21],[0,1,2,3,4,5,6,7,8,9,10,11,12,13,14,15,16,17,18,19,20,21,22],[0,1,2,3,4,5,6,7,8,9,10,11,12,13,14,15,16,17,18,19,20,21,22,23]] rfl
       (aH J J (aE J J ?_) (aH J J (aE J J ?_) (aH J J (aE J J ?_) (aH J J (aE J J ?_) (aH J J (aE J J ?_) (aH J J (aE J J ?_) (aH J J (aE J J ?_) (aH J J (aE J J ?_) (aH J J (aE J J ?_) (aH J J (aE J J ?_) (aH J J (aE J J ?_) (aH J J (aE J J ?_) (aH J J (aE J J ?_) (aH J J (aE J J ?_) (aH J J (aE J J ?_) (aH J J (aE J J ?_) (aH J J (aE J J ?_) (aH J J (aE J J ?_) (aH J J (aE J J ?_) (aH J J (aE J J ?_) (aH J J (aE J J ?_) (aH J J (aE J J ?_) (aH J J (aE J J ?_) (aH J J (aE J J ?_) (aH J J (aE J J ?_) d9))))))))))))))))))))))))) ?_
      ·exact fun _ vn=>aC (lo aA (((b_11.ext (q.t o)).vN p).ext vn) (a5 f.s f.A f.n f.c) J J J (aG J aL J))
      ·intro _ jw
       have D:=H.trans jw
       refine dk J J (aC (cl (vs:= [O f.s f.A f.n f.c]) D (eV (((F.ext (q.t o)).updT E p).ext jw).zi (F.le (aK LU J))) J (by kernel_rfl) fun _ _ uv vr I=>?_))
       obtain rfl:=uv
       exact aG J vr rfl
      ·exact fun _ _=>dk J J (aC (aI J J J false (qW jj) (aG J aL J)))
      ·exact fun _ _=>dk J J (aC (mv 1 J (aG J aL J)))
      ·exact fun _ vl=>dk J J (aC (lo aA (((b_11.ext (q.t o)).vN p).ext vl) (a5 f.s f.A f.n f.c) J J J (aG J aL J)))
      ·exact fun _ wu=>dk J J (aC (lo aA (((b_6.ext (q.t o)).vN p).ext wu) (a5 ap ao ak am) J J J (aG J aL J)))
      ·intro _ iv
       have D:=H.trans iv
       refine dk J J (dk J J (dk J J (aC (cl (vs:= [O f.s f.A f.n f.c,O ap ao ak am]) D (kS (((F.ext (q.t o)).updT E p).ext iv).zi (F.le (aK LU J)) (((zkk.ext (q.t o)).updT E p).ext iv).zi (zkk.le (a8 (pK bg Lm) (by decide)))) J (by kernel_rfl) fun _ _ vp wn I=>?_))))
       obtain rfl:=vp
       exact aG J wn rfl
      ·exact fun _ _=>dk J J (dk J J (aC (aI J J J false (oF) (aG J aL J))))
      ·exact fun _ _=>dk J J (dk J J (aC (pu (v:= AS) J (aG J aL J))))
      ·exact fun _ _=>dk J J (aC (mv 1 J (aG J aL J)))
      ·exact fun _ vj=>dk J J (aC (lo aA (((b_11.ext (q.t o)).vN p).ext vj) (a5 f.s f.A f.n f.c) J J J (aG J aL J)))
      ·exact fun _ si=>dk J J (aC (lo aA (((b_3.ext (q.t o)).vN p).ext si) (a5 sb Ab nb cb) J J J (aG J aL J)))
      ·intro _ kq
       have D:=H.trans kq
       refine dk J J (dk J J (dk J J (aC ?_)))
       have xw:ln ((Int.gcd U m:Int))≤4194305:=a8 (gU _ _) (Nat.max_le.2 ⟨a8 LU (by decide),a8 Lm (by decide)⟩)
       refine cl (vs:= [O f.s f.A f.n f.c,O sb Ab nb cb]) D (rP D.size (((F.ext (q.t o)).updT E p).ext kq).zi (F.le (aK LU J)) (hm.ext D) (aK lb J)) J (by kernel_rfl) fun _ _ tz td I=>?_
       obtain⟨_,_,_,_,rfl,vt⟩:=tz
       exact aG J td ⟨_,_,_,_,rfl,vt⟩
      ·exact fun _ sn=>dk J J (aC (lo aA (ct.ext sn) (a5 ae ah ag ab) J J J (aG J aL J)))
      ·intro _ ju
       have D:=H.trans ju
       refine dk J J (aT J J fun _ _ ry _ tc=>?_)
       obtain⟨sv,uh,ul,ux,rfl,fw⟩:=ry
       have fw:=fw.ext tc
       refine dk J J (aC (cl (vs:= [O sv uh ul ux,O ae ah ag ab]) D (kS fw.zi (fw.le (aK sz J)) (((bi.ext o).updT E p).ext ju).zi (bi.le (a8 (show ln 1≤1 by decide+kernel) (by decide)))) J (by kernel_rfl) fun _ _ sy su I=>?_))
       obtain rfl:=sy
       exact aG J su rfl
      ·exact fun _ _=>dk J J (dk J J (aC (aI J J J true (lT (fun e=>h2 (by exact_mod_cast e))) (aG J aL J))))
      ·exact fun _ _=>dk J J (dk J J (aC (pu (v:= AI) J (aG J aL J))))
      ·exact fun _ _=>dk J J (aC (mv 1 J (aG J aL J)))
      ·exact fun _ _=>dk J J (aC (mv 1 J (aG J aL J)))
      ·exact fun _ _=>dk J J (aC (mv 1 J (aG J aL J)))
      ·exact fun _ _=>dk J J (dk J J (dk J J (aC (mv 1 J (aG J aL J)))))
      ·exact fun _ _=>dk J J (aC (mv 1 J (aG J aL J)))
      ·exact fun _ _=>dk J J (dk J J (dk J J (aC (mv 1 J (aG J aL J)))))
      ·exact fun _ _=>dk J J (dk J J (aC (mv 1 J (aG J aL J))))
      ·exact fun _ _=>dk J J (dk J J (aC (pu (v:= AI) J (aG J aL J))))
      ·intro _ jx
       have D:=H.trans jx
       refine dk J J (dk J J (dk J J (dk J J (dk J J (dk J J (dk J J (dk J J (dk J J (dk J J (dk J J (dk J J (aT J J fun _ _ nw _ oi=>?_))))))))))))
       obtain⟨_,_,_,_,rfl,go⟩:=nw
       have go:=go.ext oi
       refine dk J J (dk J J (dk J J (dk J J (dk J J (dk J J (dk J J (dk J J (dk J J (dk J J (dk J J (dk J J (aC (aX ?_)))))))))))))
       refine dC (aO (aW J (sr (pu (v:= .agg #[F0,S0,F0,S0]) J ?_))))
       have jl:=(((b_4.ext (q.t o)).vN p).ext jx)
       refine so bC jl [F0,S0,F0,S0] D fd J J J J fun ij jm _ I=>(mv 1 J (a7 (aV (bR (aU [.agg #[F0,S0,F0,S0],no 6] J ⟨⟨_,rfl,bH bC jm [F0,S0,F0,S0] J (bq J) rfl⟩,rfl,AT⟩ ?_)))))
       exact⟨_,rfl,⟨_,_,rfl,⟨_,_,_,_,_,_,_,_,rfl,((Zr.zero (w:=ij) (base:=w.heap.size))).cast (by rw [hE.1]),((Zr.zero (w:=ij) (base:=w.heap.size))).cast (by rw [hE.2.1])⟩,(show (no 6:aM)=_ by rw [hE.2.2])⟩,I⟩
     ·by_cases h3:Int.gcd Y U≠1
      ·have hE:=t8 bg hS (fun hc=>h3 hc.2.1)
       have nj:ln ((Int.gcd U m:Int))≤4194305:=a8 (gU _ _) (Nat.max_le.2 ⟨a8 LU (by decide),a8 Lm (by decide)⟩)
       have mw:ln ((Int.gcd Y U:Int))≤4194305:=a8 (gU _ _) (Nat.max_le.2 ⟨a8 LY (by decide),a8 LU (by decide)⟩)
       refine dG bY 25 [] [Is (O f.s f.A f.n f.c),Is (no (bE U 0)),Is (AS),Is (AS),Is (O f.s f.A f.n f.c),Is (O ap ao ak am),Is (no (bE U ((rK m:Nat):Int))),Is (AS),Is (AS),Is (AS),Is (O f.s f.A f.n f.c),Is (O sb Ab nb cb),ZR w.heap.size ((Int.gcd U m:Int)),Is (O ae ah ag ab),Is (no (bE (Int.gcd U m:Int) 1)),Is (AS),Is (AS),Is (AS),Is (O k1.s k1.A k1.n k1.c),Is (O f.s f.A f.n f.c),ZR w.heap.size ((Int.gcd Y U:Int)),Is (O ae ah ag ab),Is (no (bE (Int.gcd Y U:Int) 1)),Is (AI),Is (AI)] [[],[0],[1],[2],[3],[3],[3,4,5],[3,6],[3,7],[8],[9],[9],[9,10,11],[9],[9,12,13],[9,14],[9,15],[16],[17],[17],[17,18,19],[17],[17,20,21],[17,22],[17,23]] [[],[0],[0,1],[0,1,2],[0,1,2,3],[0,1,2,3],[0,1,2,3,4,5],[0,1,2,3,4,5,6],[0,1,2,3,4,5,6,7],[0,1,2,3,4,5,6,7,8],[0,1,2,3,4,5,6,7,8,9],[0,1,2,3,4,5,6,7,8,9],[0,1,2,3,4,5,6,7,8,9,10,11],[0,1,2,3,4,5,6,7,8,9],[0,1,2,3,4,5,6,7,8,9,10,11,12,13],[0,1,2,3,4,5,6,7,8,9,10,11,12,13,14],[0,1,2,3,4,5,6,7,8,9,10,11,12,13,14,15],[0,1,2,3,4,5,6,7,8,9,10,11,12,13,14,15,16],[0,1,2,3,4,5,6,7,8,9,10,11,12,13,14,15,16,17],[0,1,2,3,4,5,6,7,8,9,10,11,12,13,14,15,16,17],[0,1,2,3,4,5,6,7,8,9,10,11,12,13,14,15,16,17,18,19],[0,1,2,3,4,5,6,7,8,9,10,11,12,13,14,15,16,17],[0,1,2,3,4,5,6,7,8,9,10,11,12,13,14,15,16,17,18,19,20,21],[0,1,2,3,4,5,6,7,8,9,10,11,12,13,14,15,16,17,18,19,20,21,22],[0,1,2,3,4,5,6,7,8,9,10,11,12,13,14,15,16,17,18,19,20,21,22,23]] rfl
        (aH J J (aE J J ?_) (aH J J (aE J J ?_) (aH J J (aE J J ?_) (aH J J (aE J J ?_) (aH J J (aE J J ?_) (aH J J (aE J J ?_) (aH J J (aE J J ?_) (aH J J (aE J J ?_) (aH J J (aE J J ?_) (aH J J (aE J J ?_) (aH J J (aE J J ?_) (aH J J (aE J J ?_) (aH J J (aE J J ?_) (aH J J (aE J J ?_) (aH J J (aE J J ?_) (aH J J (aE J J ?_) (aH J J (aE J J ?_) (aH J J (aE J J ?_) (aH J J (aE J J ?_) (aH J J (aE J J ?_) (aH J J (aE J J ?_) (aH J J (aE J J ?_) (aH J J (aE J J ?_) (aH J J (aE J J ?_) (aH J J (aE J J ?_) d9))))))))))))))))))))))))) ?_
       ·exact fun _ qh=>aC (lo aA (((b_11.ext (q.t o)).vN p).ext qh) (a5 f.s f.A f.n f.c) J J J (aG J aL J))
       ·intro _ gy
        have D:=H.trans gy
        refine dk J J (aC (cl (vs:= [O f.s f.A f.n f.c]) D (eV (((F.ext (q.t o)).updT E p).ext gy).zi (F.le (aK LU J))) J (by kernel_rfl) fun _ _ rj mc I=>?_))
        obtain rfl:=rj
        exact aG J mc rfl
       ·exact fun _ _=>dk J J (aC (aI J J J false (qW jj) (aG J aL J)))
       ·exact fun _ _=>dk J J (aC (mv 1 J (aG J aL J)))
       ·exact fun _ lj=>dk J J (aC (lo aA (((b_11.ext (q.t o)).vN p).ext lj) (a5 f.s f.A f.n f.c) J J J (aG J aL J)))
       ·exact fun _ qw=>dk J J (aC (lo aA (((b_6.ext (q.t o)).vN p).ext qw) (a5 ap ao ak am) J J J (aG J aL J)))
       ·intro _ fj
        have D:=H.trans fj
        refine dk J J (dk J J (dk J J (aC (cl (vs:= [O f.s f.A f.n f.c,O ap ao ak am]) D (kS (((F.ext (q.t o)).updT E p).ext fj).zi (F.le (aK LU J)) (((zkk.ext (q.t o)).updT E p).ext fj).zi (zkk.le (a8 (pK bg Lm) (by decide)))) J (by kernel_rfl) fun _ _ ma kx I=>?_))))
        obtain rfl:=ma
        exact aG J kx rfl
       ·exact fun _ _=>dk J J (dk J J (aC (aI J J J false (oF) (aG J aL J))))
       ·exact fun _ _=>dk J J (dk J J (aC (pu (v:= AS) J (aG J aL J))))
       ·exact fun _ _=>dk J J (aC (mv 1 J (aG J aL J)))
       ·exact fun _ oq=>dk J J (aC (lo aA (((b_11.ext (q.t o)).vN p).ext oq) (a5 f.s f.A f.n f.c) J J J (aG J aL J)))
       ·exact fun _ nc=>dk J J (aC (lo aA (((b_3.ext (q.t o)).vN p).ext nc) (a5 sb Ab nb cb) J J J (aG J aL J)))
       ·intro _ jf
        have D:=H.trans jf
        refine dk J J (dk J J (dk J J (aC ?_)))
        have xf:ln ((Int.gcd U m:Int))≤4194305:=a8 (gU _ _) (Nat.max_le.2 ⟨a8 LU (by decide),a8 Lm (by decide)⟩)
        refine cl (vs:= [O f.s f.A f.n f.c,O sb Ab nb cb]) D (rP D.size (((F.ext (q.t o)).updT E p).ext jf).zi (F.le (aK LU J)) (hm.ext D) (aK lb J)) J (by kernel_rfl) fun _ _ ni nk I=>?_
        obtain⟨_,_,_,_,rfl,mi⟩:=ni
        exact aG J nk ⟨_,_,_,_,rfl,mi⟩
       ·exact fun _ og=>dk J J (aC (lo aA (ct.ext og) (a5 ae ah ag ab) J J J (aG J aL J)))
       ·intro _ jd
        have D:=H.trans jd
        refine dk J J (aT J J fun _ _ po _ lp=>?_)
        obtain⟨ow,qq,rm,ny,rfl,dm⟩:=po
        have dm:=dm.ext lp
        refine dk J J (aC (cl (vs:= [O ow qq rm ny,O ae ah ag ab]) D (kS dm.zi (dm.le (aK nj J)) (((bi.ext o).updT E p).ext jd).zi (bi.le (a8 (show ln 1≤1 by decide+kernel) (by decide)))) J (by kernel_rfl) fun _ _ py qd I=>?_))
        obtain rfl:=py
        exact aG J qd rfl
       ·exact fun _ _=>dk J J (dk J J (aC (aI J J J false (lC (by have:=Decidable.not_not.1 h2;exact_mod_cast this)) (aG J aL J))))
       ·exact fun _ _=>dk J J (dk J J (aC (pu (v:= AS) J (aG J aL J))))
       ·exact fun _ _=>dk J J (aC (mv 1 J (aG J aL J)))
       ·exact fun _ rg=>dk J J (aC (lo aA (((b_8.ext (q.t o)).vN p).ext rg) (a5 k1.s k1.A k1.n k1.c) J J J (aG J aL J)))
       ·exact fun _ qx=>dk J J (aC (lo aA (((b_11.ext (q.t o)).vN p).ext qx) (a5 f.s f.A f.n f.c) J J J (aG J aL J)))
       ·intro _ fp
        have D:=H.trans fp
        refine dk J J (dk J J (dk J J (aC ?_)))
        have xc:ln ((Int.gcd Y U:Int))≤4194305:=a8 (gU _ _) (Nat.max_le.2 ⟨a8 LY (by decide),a8 LU (by decide)⟩)
        refine cl (vs:= [O k1.s k1.A k1.n k1.c,O f.s f.A f.n f.c]) D (rP D.size (((bh.ext (q.t o)).updT E p).ext fp).zi (bh.le (aK LY J)) (((F.ext (q.t o)).updT E p).ext fp).zi (F.le (aK LU J))) J (by kernel_rfl) fun _ _ lv md I=>?_
        obtain⟨_,_,_,_,rfl,nh⟩:=lv
        exact aG J md ⟨_,_,_,_,rfl,nh⟩
       ·exact fun _ mn=>dk J J (aC (lo aA (ct.ext mn) (a5 ae ah ag ab) J J J (aG J aL J)))
       ·intro _ gr
        have D:=H.trans gr
        refine dk J J (aT J J fun _ _ rc _ pe=>?_)
        obtain⟨kw,ov,mx,qt,rfl,dr⟩:=rc
        have dr:=dr.ext pe
        refine dk J J (aC (cl (vs:= [O kw ov mx qt,O ae ah ag ab]) D (kS dr.zi (dr.le (aK mw J)) (((bi.ext o).updT E p).ext gr).zi (bi.le (a8 (show ln 1≤1 by decide+kernel) (by decide)))) J (by kernel_rfl) fun _ _ mr nz I=>?_))
        obtain rfl:=mr
        exact aG J nz rfl
       ·exact fun _ _=>dk J J (dk J J (aC (aI J J J true (lT (fun e=>h3 (by exact_mod_cast e))) (aG J aL J))))
       ·exact fun _ _=>dk J J (dk J J (aC (pu (v:= AI) J (aG J aL J))))
       ·intro _ je
        have D:=H.trans je
        refine dk J J (dk J J (dk J J (dk J J (dk J J (dk J J (dk J J (dk J J (dk J J (dk J J (dk J J (dk J J (aT J J fun _ _ ml _ pj=>?_))))))))))))
        obtain⟨_,_,_,_,rfl,iu⟩:=ml
        have iu:=iu.ext pj
        refine dk J J (dk J J (dk J J (dk J J (dk J J (dk J J (dk J J (aT J J fun _ _ qm _ ll=>?_)))))))
        obtain⟨_,_,_,_,rfl,jc⟩:=qm
        have jc:=jc.ext ll
        refine dk J J (dk J J (dk J J (dk J J (aC (aX (dC (aO (aW J (sr (pu (v:= .agg #[F0,S0,F0,S0]) J ?_))))))))))
        have ji:=(((b_4.ext (q.t o)).vN p).ext je)
        refine so bC ji [F0,S0,F0,S0] D fd J J J J fun ia jk _ I=>(mv 1 J (a7 (aV (bR (aU [.agg #[F0,S0,F0,S0],no 6] J ⟨⟨_,rfl,bH bC jk [F0,S0,F0,S0] J (bq J) rfl⟩,rfl,AT⟩ ?_)))))
        exact⟨_,rfl,⟨_,_,rfl,⟨_,_,_,_,_,_,_,_,rfl,((Zr.zero (w:=ia) (base:=w.heap.size))).cast (by rw [hE.1]),((Zr.zero (w:=ia) (base:=w.heap.size))).cast (by rw [hE.2.1])⟩,(show (no 6:aM)=_ by rw [hE.2.2])⟩,I⟩
      ·have hE:=HA bg hS ⟨h1,Decidable.not_not.1 h3,Decidable.not_not.1 h2⟩
       have qv:ln ((Int.gcd U m:Int))≤4194305:=a8 (gU _ _) (Nat.max_le.2 ⟨a8 LU (by decide),a8 Lm (by decide)⟩)
       have oh:ln ((Int.gcd Y U:Int))≤4194305:=a8 (gU _ _) (Nat.max_le.2 ⟨a8 LY (by decide),a8 LU (by decide)⟩)
       refine dG bY 25 [] [Is (O f.s f.A f.n f.c),Is (no (bE U 0)),Is (AS),Is (AS),Is (O f.s f.A f.n f.c),Is (O ap ao ak am),Is (no (bE U ((rK m:Nat):Int))),Is (AS),Is (AS),Is (AS),Is (O f.s f.A f.n f.c),Is (O sb Ab nb cb),ZR w.heap.size ((Int.gcd U m:Int)),Is (O ae ah ag ab),Is (no (bE (Int.gcd U m:Int) 1)),Is (AS),Is (AS),Is (AS),Is (O k1.s k1.A k1.n k1.c),Is (O f.s f.A f.n f.c),ZR w.heap.size ((Int.gcd Y U:Int)),Is (O ae ah ag ab),Is (no (bE (Int.gcd Y U:Int) 1)),Is (AS),Is (AS)] [[],[0],[1],[2],[3],[3],[3,4,5],[3,6],[3,7],[8],[9],[9],[9,10,11],[9],[9,12,13],[9,14],[9,15],[16],[17],[17],[17,18,19],[17],[17,20,21],[17,22],[17,23]] [[],[0],[0,1],[0,1,2],[0,1,2,3],[0,1,2,3],[0,1,2,3,4,5],[0,1,2,3,4,5,6],[0,1,2,3,4,5,6,7],[0,1,2,3,4,5,6,7,8],[0,1,2,3,4,5,6,7,8,9],[0,1,2,3,4,5,6,7,8,9],[0,1,2,3,4,5,6,7,8,9,10,11],[0,1,2,3,4,5,6,7,8,9],[0,1,2,3,4,5,6,7,8,9,10,11,12,13],[0,1,2,3,4,5,6,7,8,9,10,11,12,13,14],[0,1,2,3,4,5,6,7,8,9,10,11,12,13,14,15],[0,1,2,3,4,5,6,7,8,9,10,11,12,13,14,15,16],[0,1,2,3,4,5,6,7,8,9,10,11,12,13,14,15,16,17],[0,1,2,3,4,5,6,7,8,9,10,11,12,13,14,15,16,17],[0,1,2,3,4,5,6,7,8,9,10,11,12,13,14,15,16,17,18,19],[0,1,2,3,4,5,6,7,8,9,10,11,12,13,14,15,16,17],[0,1,2,3,4,5,6,7,8,9,10,11,12,13,14,15,16,17,18,19,20,21],[0,1,2,3,4,5,6,7,8,9,10,11,12,13,14,15,16,17,18,19,20,21,22],[0,1,2,3,4,5,6,7,8,9,10,11,12,13,14,15,16,17,18,19,20,21,22,23]] rfl
        (aH J J (aE J J ?_) (aH J J (aE J J ?_) (aH J J (aE J J ?_) (aH J J (aE J J ?_) (aH J J (aE J J ?_) (aH J J (aE J J ?_) (aH J J (aE J J ?_) (aH J J (aE J J ?_) (aH J J (aE J J ?_) (aH J J (aE J J ?_) (aH J J (aE J J ?_) (aH J J (aE J J ?_) (aH J J (aE J J ?_) (aH J J (aE J J ?_) (aH J J (aE J J ?_) (aH J J (aE J J ?_) (aH J J (aE J J ?_) (aH J J (aE J J ?_) (aH J J (aE J J ?_) (aH J J (aE J J ?_) (aH J J (aE J J ?_) (aH J J (aE J J ?_) (aH J J (aE J J ?_) (aH J J (aE J J ?_) (aH J J (aE J J ?_) d9))))))))))))))))))))))))) ?_
       ·exact fun _ nl=>aC (lo aA (((b_11.ext (q.t o)).vN p).ext nl) (a5 f.s f.A f.n f.c) J J J (aG J aL J))
       ·intro _ il
        have D:=H.trans il
        refine dk J J (aC (cl (vs:= [O f.s f.A f.n f.c]) D (eV (((F.ext (q.t o)).updT E p).ext il).zi (F.le (aK LU J))) J (by kernel_rfl) fun _ _ pd qe I=>?_))
        obtain rfl:=pd
        exact aG J qe rfl
       ·exact fun _ _=>dk J J (aC (aI J J J false (qW jj) (aG J aL J)))
       ·exact fun _ _=>dk J J (aC (mv 1 J (aG J aL J)))
       ·exact fun _ pq=>dk J J (aC (lo aA (((b_11.ext (q.t o)).vN p).ext pq) (a5 f.s f.A f.n f.c) J J J (aG J aL J)))
       ·exact fun _ nm=>dk J J (aC (lo aA (((b_6.ext (q.t o)).vN p).ext nm) (a5 ap ao ak am) J J J (aG J aL J)))
       ·intro _ fo
        have D:=H.trans fo
        refine dk J J (dk J J (dk J J (aC (cl (vs:= [O f.s f.A f.n f.c,O ap ao ak am]) D (kS (((F.ext (q.t o)).updT E p).ext fo).zi (F.le (aK LU J)) (((zkk.ext (q.t o)).updT E p).ext fo).zi (zkk.le (a8 (pK bg Lm) (by decide)))) J (by kernel_rfl) fun _ _ pk oe I=>?_))))
        obtain rfl:=pk
        exact aG J oe rfl
       ·exact fun _ _=>dk J J (dk J J (aC (aI J J J false (oF) (aG J aL J))))
       ·exact fun _ _=>dk J J (dk J J (aC (pu (v:= AS) J (aG J aL J))))
       ·exact fun _ _=>dk J J (aC (mv 1 J (aG J aL J)))
       ·exact fun _ qy=>dk J J (aC (lo aA (((b_11.ext (q.t o)).vN p).ext qy) (a5 f.s f.A f.n f.c) J J J (aG J aL J)))
       ·exact fun _ om=>dk J J (aC (lo aA (((b_3.ext (q.t o)).vN p).ext om) (a5 sb Ab nb cb) J J J (aG J aL J)))
       ·intro _ ib
        have D:=H.trans ib
        refine dk J J (dk J J (dk J J (aC ?_)))
        have xd:ln ((Int.gcd U m:Int))≤4194305:=a8 (gU _ _) (Nat.max_le.2 ⟨a8 LU (by decide),a8 Lm (by decide)⟩)
        refine cl (vs:= [O f.s f.A f.n f.c,O sb Ab nb cb]) D (rP D.size (((F.ext (q.t o)).updT E p).ext ib).zi (F.le (aK LU J)) (hm.ext D) (aK lb J)) J (by kernel_rfl) fun _ _ ot li I=>?_
        obtain⟨_,_,_,_,rfl,oo⟩:=ot
        exact aG J li ⟨_,_,_,_,rfl,oo⟩
       ·exact fun _ pg=>dk J J (aC (lo aA (ct.ext pg) (a5 ae ah ag ab) J J J (aG J aL J)))
       ·intro _ ir
        have D:=H.trans ir
        refine dk J J (aT J J fun _ _ mp _ px=>?_)
        obtain⟨qg,mb,qj,rp,rfl,dg⟩:=mp
        have dg:=dg.ext px
        refine dk J J (aC (cl (vs:= [O qg mb qj rp,O ae ah ag ab]) D (kS dg.zi (dg.le (aK qv J)) (((bi.ext o).updT E p).ext ir).zi (bi.le (a8 (show ln 1≤1 by decide+kernel) (by decide)))) J (by kernel_rfl) fun _ _ re pm I=>?_))
        obtain rfl:=re
        exact aG J pm rfl
       ·exact fun _ _=>dk J J (dk J J (aC (aI J J J false (lC (by have:=Decidable.not_not.1 h2;exact_mod_cast this)) (aG J aL J))))
       ·exact fun _ _=>dk J J (dk J J (aC (pu (v:= AS) J (aG J aL J))))
       ·exact fun _ _=>dk J J (aC (mv 1 J (aG J aL J)))
       ·exact fun _ ou=>dk J J (aC (lo aA (((b_8.ext (q.t o)).vN p).ext ou) (a5 k1.s k1.A k1.n k1.c) J J J (aG J aL J)))
       ·exact fun _ mu=>dk J J (aC (lo aA (((b_11.ext (q.t o)).vN p).ext mu) (a5 f.s f.A f.n f.c) J J J (aG J aL J)))
       ·intro _ fk
        have D:=H.trans fk
        refine dk J J (dk J J (dk J J (aC ?_)))
        have xj:ln ((Int.gcd Y U:Int))≤4194305:=a8 (gU _ _) (Nat.max_le.2 ⟨a8 LY (by decide),a8 LU (by decide)⟩)
        refine cl (vs:= [O k1.s k1.A k1.n k1.c,O f.s f.A f.n f.c]) D (rP D.size (((bh.ext (q.t o)).updT E p).ext fk).zi (bh.le (aK LY J)) (((F.ext (q.t o)).updT E p).ext fk).zi (F.le (aK LU J))) J (by kernel_rfl) fun _ _ kz mh I=>?_
        obtain⟨_,_,_,_,rfl,mz⟩:=kz
        exact aG J mh ⟨_,_,_,_,rfl,mz⟩
       ·exact fun _ lm=>dk J J (aC (lo aA (ct.ext lm) (a5 ae ah ag ab) J J J (aG J aL J)))
       ·intro _ ja
        have D:=H.trans ja
        refine dk J J (aT J J fun _ _ mq _ oa=>?_)
        obtain⟨oy,oz,qr,my,rfl,dh⟩:=mq
        have dh:=dh.ext oa
        refine dk J J (aC (cl (vs:= [O oy oz qr my,O ae ah ag ab]) D (kS dh.zi (dh.le (aK oh J)) (((bi.ext o).updT E p).ext ja).zi (bi.le (a8 (show ln 1≤1 by decide+kernel) (by decide)))) J (by kernel_rfl) fun _ _ lk qp I=>?_))
        obtain rfl:=lk
        exact aG J qp rfl
       ·exact fun _ _=>dk J J (dk J J (aC (aI J J J false (lC (by have:=Decidable.not_not.1 h3;exact_mod_cast this)) (aG J aL J))))
       ·exact fun _ _=>dk J J (dk J J (aC (pu (v:= AS) J (aG J aL J))))
       ·intro _ bw
        have D:=H.trans bw
        refine dk J J (dk J J (dk J J (dk J J (dk J J (dk J J (dk J J (dk J J (dk J J (dk J J (dk J J (dk J J (aT J J fun _ _ lh _ lu=>?_))))))))))))
        obtain⟨_,_,_,_,rfl,jg⟩:=lh
        have jg:=jg.ext lu
        refine dk J J (dk J J (dk J J (dk J J (dk J J (dk J J (dk J J (aT J J fun _ _ qz _ qs=>?_)))))))
        obtain⟨_,_,_,_,rfl,im⟩:=qz
        have im:=im.ext qs
        refine dk J J (dk J J (dk J J (dk J J (aC (aX (dC (aO (aQ J (aY (aO (sr (lo aA (((b_8.ext (q.t o)).vN p).ext bw) (a5 k1.s k1.A k1.n k1.c) J J J (lo aA (((b_11.ext (q.t o)).vN p).ext bw) (a5 f.s f.A f.n f.c) J J J ?_)))))))))))))
        refine pu (v:= a9 k1.s k1.A k1.n k1.c f.s f.A f.n f.c) J ?_
        have dt:=(((b_4.ext (q.t o)).vN p).ext bw)
        refine so bC dt [.bool k1.s,we k1.A k1.n k1.c,.bool f.s,we f.A f.n f.c] D fd J J J J fun _ jo iq I=>(mv 1 J (a7 (aV (aU [a9 k1.s k1.A k1.n k1.c f.s f.A f.n f.c,I0] J ⟨⟨_,rfl,bH bC jo [.bool k1.s,we k1.A k1.n k1.c,.bool f.s,we f.A f.n f.c] J (bq J) rfl⟩,rfl,AT⟩ ?_))))
        exact⟨_,rfl,⟨_,_,rfl,⟨_,_,_,_,_,_,_,_,rfl,(((((bh.ext (q.t o)).updT E p).ext bw).updT dt iq)).cast (by rw [hE.1]),(((((F.ext (q.t o)).updT E p).ext bw).updT dt iq)).cast (by rw [hE.2.1])⟩,(show (no 0:aM)=_ by rw [hE.2.2])⟩,I⟩
 ·have hE:=HC (r:=r) bg
  refine aF (lo aA (fh.ext em) (a5 sb Ab nb cb) J J J (cl (vs:= [O sb Ab nb cb]) bp (eV (hm.ext bp) (aK lb J)) J (by kernel_rfl) fun _ _ nx lz H=>?_))
  obtain rfl:=nx
  refine aI J J J true (G8 (by omega)) (a7 (aW J (sr (pu (v:= .agg #[F0,S0,F0,S0]) J ?_))))
  have jp:=(jb.ext lz)
  refine so bC jp [F0,S0,F0,S0] H fd J J J J fun iz jn _ D=>(mv 1 J (a7 (aV (bR (aU [.agg #[F0,S0,F0,S0],no 3] J ⟨⟨_,rfl,bH bC jn [F0,S0,F0,S0] J (bq J) rfl⟩,rfl,AT⟩ ?_)))))
  exact⟨_,rfl,⟨_,_,rfl,⟨_,_,_,_,_,_,_,_,rfl,((Zr.zero (w:=iz) (base:=w.heap.size))).cast (by rw [hE.1]),((Zr.zero (w:=iz) (base:=w.heap.size))).cast (by rw [hE.2.1])⟩,(show (no 3:aM)=_ by rw [hE.2.2])⟩,D⟩
end Go.Proofs.YtkepckmdjncehaaGreatDoor
