/- Parts Grp2, Strc, Law5s, Ref5b, Pj, Apz, Fr9, Atx, Atr, Lg8, Fbt, Own0, Own, Ref4, Ref4t, Ref4r, Ref5d, Rf8c, Sxt, Fbc, Fbd, Rf8d, Rf8e, Keep0, Ref3g, joined. -/
import Derived.Test.YtkkabncicmhjfaaGreatDoorK3
import Derived.Laws.Slices

open Go renaming Addr → a7, Calls → aQ, Edge → fL, Exit → dX, Oper → bE, Operand → cR, Program → cO, TypeId → aS, Value → aF, World → a6
open Array renaming replicate → uN
open Bool renaming and_eq_true → fB, not_eq_true' → CW
open Go.Instr renaming alloc → CV
open Int renaming emod_lt_of_pos → lU, emod_nonneg → kS, toNat_natCast → jB
open List renaming all_eq_true → gK, append_nil → m7, contains_iff_mem → lL, drop_eq_getElem_cons → pF, drop_zero → iN, getD_eq_getElem?_getD → bL, getElem?_drop → nO, getElem?_eq_getElem → cT, getElem?_eq_none → jT, getElem?_eq_some_iff → gU, getElem?_map → jM, getElem_mem → oG, length_append → f8, length_cons → fO, length_drop → iK, length_eq_zero_iff → uK, length_take → eB, map_cons → jS, map_nil → kR, map_take → m6, mem_append → m5, mem_of_mem_drop → q9, mem_of_mem_take → sR, mem_range → j5, mem_singleton → rB, range → eI, replicate → dF
open Nat renaming add_assoc → k8, add_mul → eE, add_sub_cancel → oF, add_zero → fN, div_eq_of_lt → jL, div_le_self → gN, div_lt_self → m0, le_refl → aU, le_trans → a8, lt_of_lt_of_le → dA, lt_of_not_le → pC, lt_or_ge → kQ, min_eq_left → iJ, mod_add_div → kF, mod_lt → g7, mul_add → dE, mul_assoc → cU, mul_le_mul → kP, mul_le_mul_left → gT, mul_one → eH, mul_zero → iV, pow_add → eS, pow_le_pow_right → fZ, pow_succ → dS, zero_add → eR, zero_le → bX
open Ne renaming symm → mP
open Go.Next renaming value → iE
open Go.Oper renaming upon → nN
open Option renaming getD_some → nM, map_some → sM
open Option.some renaming injEq → f7
open Or renaming inl → cJ, inr → cN
open Go.Region renaming wanted → wK
open Go.Sem renaming run_bind → cV
open Go.Proofs.Tryz renaming prog → aM
open Go.Value renaming int → eL, pointer → yT
open Go.World.grownBy renaming refl → GY
namespace Go.Proofs.YtkkabncicmhjfaaGreatDoor
set_option maxHeartbeats 8000000
set_option maxRecDepth 20000
variable {A Aa Ab Ad Ae B D dp sp:Option a7}{K N P R X ac an b b' base base' c ca cap cap' cb cd ce d g i id j lb m n na ne rest:Nat}{L a bs ds hi is l l' lx ly ms ps tl xs:List Nat}{T T' ty:aS}{acc:Fr}{af:Array fL}{dst:Option Tmp}{high low:Option aF}{k:IntKind}{o:bE}{p q r u v x y z:Int}{pos:String}{s sa sb sd se t:Bool}{us vs:List aF}{w w':a6}{zs:List Int}
section
def DJ:List Nat→Bool
 | []=>false
 | c::r=>(decide (c=95)&&decide (r.headD 0=95))||DJ r
def a39 (l:List Nat):Prop:=∀c,c∈l→dv c<10∨c=95
end
section
open Go.ChangeShapes Go.WideShapes Go.ChangeAt Go.RowKit
theorem J7 (bs:List Nat)(i j:Nat):(aN bs).extract i j=aN ((bs.take j).drop i):=by
 refine ByteArray.ext ?_;rw [ByteArray.data_extract];unfold aN;rw [List.extract_toArray,List.extract_eq_take_drop,List.map_drop,m6,List.drop_take]
theorem UA (bs:List Nat)(j:Nat):(aN bs).extract 0 j=aN (bs.take j):=by rw [J7,iN]
theorem J6 (bs:List Nat)(i:Nat):(aN bs).extract i (aN bs).size=aN (bs.drop i):=by rw [J7,eJ,List.take_length]
section
variable {P:cO}{Q:dX→Act→a6→Prop}{n:Nat}{l:Fr}{w:a6}{ops:Array bE}{rest:List bE}{d:Nat}{ty:aS}{pos:String}{af:Array fL}{gd:Option (Nat×Bool)}
theorem DY {t:aS}{s:ByteArray}(ht:P.underlying t=some .string):(Instr.sliceAt t (.string s) low high none).run P w=(Instr.slice t (.string s) low high none).run P w:=by
 have f:(underlying t).run P w= .ok .string w:=run_underlying ht w;unfold Instr.sliceAt;simp only [cV,f,Result.andThen_ok]
theorem wU {x y:cR}{t:aS}(hw:dD ops l gd=some true)(hx:cB l x=some (.string (aN bs)))(hy:cB l y=some (no (i:Int)))(ht:P.underlying t=some .string)(h:wl P ops Q n rest ((d,.string (aN (bs.take i)))::l) w)(hi:i≤bs.length:=by omega)(hn:d<n:=by decide):wl P ops Q n (⟨some d,.slice t x none (some y) none,ty,pos,af,gd⟩::rest) l w:=
 gO hw hn (fun a' f=>by
  have e:(Instr.sliceAt t (a'.eval x) (Option.map a'.eval none) ((some y).map a'.eval) (Option.map a'.eval none)).run P w= .ok (.string (aN (bs.take i))) w:=by
   show (Instr.sliceAt t (a'.eval x) none (some (a'.eval y)) none).run P w=_
   rw [f.ev hx,f.ev hy,DY ht,run_slice_string_h (ht:=ht) (kh:= .i64) (h:=(i:Int)) (h0:=by omega) (h2:=by rw [eJ];omega),jB,UA]
  show ((Instr.sliceAt t (a'.eval x) (Option.map a'.eval none) ((some y).map a'.eval) (Option.map a'.eval none)>>=fun r=>pure (iE r):Sem Next)).run P w=_
  rw [cV,e];rfl) h
theorem uO {x y:cR}{t:aS}(hw:dD ops l gd=some true)(hx:cB l x=some (.string (aN bs)))(hy:cB l y=some (no (i:Int)))(ht:P.underlying t=some .string)(h:wl P ops Q n rest ((d,.string (aN (bs.drop i)))::l) w)(hi:i≤bs.length:=by omega)(hn:d<n:=by decide):wl P ops Q n (⟨some d,.slice t x (some y) none none,ty,pos,af,gd⟩::rest) l w:=
 gO hw hn (fun a' f=>by
  have e:(Instr.sliceAt t (a'.eval x) ((some y).map a'.eval) (Option.map a'.eval none) (Option.map a'.eval none)).run P w= .ok (.string (aN (bs.drop i))) w:=by
   show (Instr.sliceAt t (a'.eval x) (some (a'.eval y)) none none).run P w=_
   rw [f.ev hx,f.ev hy,DY ht,run_slice_string_l (ht:=ht) (kl:= .i64) (l:=(i:Int)) (h0:=by omega) (h1:=by rw [eJ];omega),jB,J6]
  show ((Instr.sliceAt t (a'.eval x) ((some y).map a'.eval) (Option.map a'.eval none) (Option.map a'.eval none)>>=fun r=>pure (iE r):Sem Next)).run P w=_
  rw [cV,e];rfl) h
end
end
section
open Go.RowKit
theorem O9 (hn:n=(wd m).length)(ho:Own w b 43 1 A n c ((wd m).map bF)):aQ aM 93 #[wk,up A n c] w (Gv w (ZR b ((m:Nat):Int))):=by
 refine (mQ (s:=false) hn).mono ?_;rintro e w' ⟨s',rfl,hs,hx⟩;have f:s'=false:=by rw [hs.out,nT];exact decide_eq_false i9
 subst f;exact⟨_,rfl,⟨_,_,_,_,rfl,(sI hn ho).ext hx⟩,hx⟩
theorem O8 (hn:n=(wd m).length)(ho:Own w b 43 1 A n c ((wd m).map bF)):aQ aM 93 #[we,up A n c] w (Gv w (ZR b (-((m:Nat):Int)))):=by
 refine (mQ (s:=true) hn).mono ?_;rintro e w' ⟨s',rfl,hs,hx⟩;refine⟨_,rfl,⟨_,_,_,_,rfl,?_⟩,hx⟩;exact (lE (m:=m) (s:=true) (by rw [hs.out]) hn ho (uW m)).ext hx
def jV (bs:List Nat):Bool:=if bs.take 1= [43] then false else if bs.take 1= [45] then true else if bs.take 3= [226,136,146] then true else false
def gD (bs:List Nat):List Nat:=if bs.take 1= [43] then bs.drop 1 else if bs.take 1= [45] then bs.drop 1 else if bs.take 3= [226,136,146] then bs.drop 3 else bs
def pJ (bs:List Nat):Int:=if jV bs=true then-((cZ 10 ((gD bs).map dv):Nat):Int) else ((cZ 10 ((gD bs).map dv):Nat):Int)
theorem a1p (hbs:∀b,b∈bs→b<256)(hps:∀b,b∈ps→b<256):aQ aM 145 #[.string (aN bs),.string (aN ps)] w (Gv w (Is (.bool (decide (bs.take ps.length=ps))))):=by
 refine bU Tryz.func145 18 J (sr (aE 1 J (aD ?_)));by_cases o:bs.length≥ps.length
 ·by_cases f:bs.take ps.length=ps
  ·refine aK 1 J (eQ J J (v:= no ((aN bs).size:Nat)) (v':= no (bs.length:Nat)) (by rw [eJ]) (mv 1 J (eQ J J (v:= no ((aN ps).size:Nat)) (v':= no (ps.length:Nat)) (by rw [eJ]) (aH J (i8 bs.length ps.length J) (mv 3 J (eQ J J (v:= no ((aN ps).size:Nat)) (v':= no (ps.length:Nat)) (by rw [eJ]) (wU (bs:=bs) (i:=ps.length) J J J Tryz.underlying9 (mv 1 J (pK (a:=bs.take ps.length) (b:=ps) J J J (fun b hb=>hbs b (sR hb)) true (zS (f)) (aA (we) J (bS 1 J ?_)) (hb:=hps))))))))));refine aL (bA (aZ [we] J ⟨rfl,xl⟩ ?_));exact⟨_,rfl,(show Value.bool true=_ by rw [decide_eq_true f]),bN⟩
  refine aK 1 J (eQ J J (v:= no ((aN bs).size:Nat)) (v':= no (bs.length:Nat)) (by rw [eJ]) (mv 1 J (eQ J J (v:= no ((aN ps).size:Nat)) (v':= no (ps.length:Nat)) (by rw [eJ]) (aH J (i8 bs.length ps.length J) (mv 3 J (eQ J J (v:= no ((aN ps).size:Nat)) (v':= no (ps.length:Nat)) (by rw [eJ]) (wU (bs:=bs) (i:=ps.length) J J J Tryz.underlying9 (mv 1 J (pK (a:=bs.take ps.length) (b:=ps) J J J (fun b hb=>hbs b (sR hb)) false (uU (f)) (aA (wk) J (bS 1 J ?_)) (hb:=hps))))))))));refine aL (bA (aZ [F0] J ⟨rfl,xl⟩ ?_));exact⟨_,rfl,(show Value.bool false=_ by rw [decide_eq_false f]),bN⟩
 have f:bs.take ps.length≠ps:=fun e=>by have h:=congrArg List.length e;rw [eB] at h;omega
 refine aK 1 J (eQ J J (v:= no ((aN bs).size:Nat)) (v':= no (bs.length:Nat)) (by rw [eJ]) (mv 1 J (eQ J J (v:= no ((aN ps).size:Nat)) (v':= no (ps.length:Nat)) (by rw [eJ]) (aH J (nE bs.length ps.length J) (mv 7 J (aA (wk) J (aE 1 J (bA (aZ [F0] J ⟨rfl,xl⟩ ?_)))))))));exact⟨_,rfl,(show Value.bool false=_ by rw [decide_eq_false f]),bN⟩
theorem qS (hbs:∀b,b∈bs→b<256)(hps:∀b,b∈ps→b<256:=by decide):aQ aM 113 #[.string (aN bs),.string (aN ps)] w (Gv w (Is (.bool (decide (bs.take ps.length=ps))))):=by
 refine bU Tryz.func113 8 J (sr (aE 1 J (aV 2 J (bI [.string (aN bs),.string (aN ps)] bN (a1p hbs hps) J ?_))));rintro _ _ rfl _ f;refine aE 1 J (bA (aZ [.bool (decide (bs.take ps.length=ps))] J ⟨rfl,xl⟩ ?_));exact⟨_,rfl,rfl,f⟩
theorem JR (hbs:∀b,b∈bs→b<256)(hlen:bs.length≤17179869184):aQ aM 81 #[.string (aN bs)] w (fun e w'=>(fH 10 (gD bs)→Gv w (T2 (ZR w.heap.size (pJ bs)) (Is (no 0))) e w')∧(¬fH 10 (gD bs)→Gv w (T2 (Is (O false none 0 0)) (Is (no 7))) e w')):=by
 refine bU Tryz.func81 34 J (sr (nI [F0,S0] bN J fun _ v2 W V _ ai=>(aE 1 J (sr (aE 1 J (aD (bO (aD ?_))))))));by_cases E:bs.take 1= [43]
 ·have f:gD bs=bs.drop 1:=by unfold gD;rw [if_pos E]
  have Y:jV bs=false:=by unfold jV;rw [if_pos E]
  have de:1≤bs.length:=by have h:=congrArg List.length E;rw [eB] at h;simp only [fO,List.length_nil] at h;omega
  refine aK 1 J (dP [.string (aN bs),.string (aN ([43]))] (by have h:=qS (w:=v2) (bs:=bs) (ps:= [43]) hbs;rw [decide_eq_true (show bs.take ([43]:List Nat).length= [43] by exact E)] at h;exact h) J ?_);rintro _ _ ⟨_,rfl,r8,e7⟩;refine dO ?_;have M:=ai.trans e7;obtain rfl:=r8;refine aE 1 J (bC J (aK 1 J (uO (bs:=bs) (i:=1) J J J Tryz.underlying9 (bS 1 J (bT (aL (aD ?_)))))));have I:∀b,b∈bs.drop 1→b<256:=fun b hb=>hbs b (q9 hb);have G:(bs.drop 1).length≤17179869184:=by rw [iK];omega
  by_cases hg:fH 10 (bs.drop 1)
  ·have bu:=qO (base:=10) hg.2;refine aK 1 J (bI [.string (aN (bs.drop 1))] M ((xC I G hg).mono (Gv.imp (T2.imp (WR.imp M.size) Is.imp))) J ?_);rintro _ _ ⟨_,_,rfl,⟨dt,df,dy,rfl,gg,fq⟩,rfl⟩ gk H;refine mv 1 J (aA (up dt df dy) J (aA (no 0) J (aE 2 J (aD (aV 1 J (fP J J J false (aG (aT J (bB (aL (aD ?_)))))))))));refine aK 2 J (bI [F0,up dt df dy] H (O9 gg fq) J ?_);rintro _ _ ⟨bj,av,bi,cj,rfl,fj⟩ fe o;have am:=(W.ext (e7.t (gk.t fe)));refine so aB am (a5 bj av bi cj) o V J J J J fun _ ei ey F=>(aE 1 J (bA (aZ [O bj av bi cj,I0] J ⟨⟨_,rfl,bK aB ei (a5 bj av bi cj) J (bq J) rfl⟩,rfl,xl⟩ (⟨fun _=>⟨_,rfl,⟨_,_,rfl,⟨_,_,_,_,rfl,?_⟩,rfl⟩,F⟩,fun h=>absurd (show fH 10 (gD bs) by rw [f];exact hg) h⟩))));have h:=(fj.updT am ey);rw [pJ,Y,f];exact h
  refine aK 1 J (bI [.string (aN (bs.drop 1))] M (xD I G hg) J ?_);rintro _ _ ⟨_,_,rfl,rfl,rfl⟩ iB H;refine mv 1 J (aA (up none 0 0) J (aA (no 7) J (aE 2 J (aD (aV 1 J (fP J J J true (aG (bC J (sr (aA (.agg #[F0,S0]) J (mv 1 J ?_)))))))))));refine so aB (W.ext (e7.t iB)) [F0,S0] H V J J J J fun _ dm _ o=>(aE 1 J (bA (cI (aZ [.agg #[F0,S0],no 7] J ⟨⟨_,rfl,bK aB dm [F0,S0] J (bq J) rfl⟩,rfl,xl⟩ ?_))));exact⟨fun h=>absurd (by rw [f] at h;exact h) hg,fun _=>⟨_,rfl,⟨_,_,rfl,rfl,rfl⟩,o⟩⟩
 by_cases L:bs.take 1= [45]
 ·have f:gD bs=bs.drop 1:=by unfold gD;rw [if_neg E,if_pos L]
  have Y:jV bs=true:=by unfold jV;rw [if_neg E,if_pos L]
  have de:1≤bs.length:=by have h:=congrArg List.length L;rw [eB] at h;simp only [fO,List.length_nil] at h;omega
  refine aK 1 J (dP [.string (aN bs),.string (aN ([43]))] (by have h:=qS (w:=v2) (bs:=bs) (ps:= [43]) hbs;rw [decide_eq_false (show¬bs.take ([43]:List Nat).length= [43] by exact E)] at h;exact h) J ?_);rintro _ fy ⟨_,rfl,ez,ct⟩;refine dO ?_;have M:=ai.trans ct;obtain rfl:=ez;refine aE 1 J (aT J (aV 1 J (dP [.string (aN bs),.string (aN ([45]))] (by have h:=qS (w:=fy) (bs:=bs) (ps:= [45]) hbs;rw [decide_eq_true (show bs.take ([45]:List Nat).length= [45] by exact L)] at h;exact h) J ?_)));rintro _ _ ⟨_,rfl,ge,bf⟩;refine dO ?_;have H:=M.trans bf;obtain rfl:=ge;refine aE 1 J (bC J (aK 1 J (uO (bs:=bs) (i:=1) J J J Tryz.underlying9 (bS 2 J (bT (aL (aD ?_)))))));have I:∀b,b∈bs.drop 1→b<256:=fun b hb=>hbs b (q9 hb);have G:(bs.drop 1).length≤17179869184:=by rw [iK];omega
  by_cases hg:fH 10 (bs.drop 1)
  ·have bu:=qO (base:=10) hg.2;refine aK 1 J (bI [.string (aN (bs.drop 1))] H ((xC I G hg).mono (Gv.imp (T2.imp (WR.imp H.size) Is.imp))) J ?_);rintro _ _ ⟨_,_,rfl,⟨ee,dw,el,rfl,ew,fb⟩,rfl⟩ fv o;refine mv 1 J (aA (up ee dw el) J (aA (no 0) J (aE 2 J (aD (aV 1 J (fP J J J false (aG (aT J (bB (aL (aD ?_)))))))))));refine aK 2 J (bI (a5 true ee dw el) o (O8 ew fb) J ?_);rintro _ _ ⟨bg,ch,bh,cm,rfl,fc⟩ fg F;have aq:=(W.ext (ct.t (bf.t (fv.t fg))));refine so aB aq (a5 bg ch bh cm) F V J J J J fun _ eg go U=>(aE 1 J (bA (aZ [O bg ch bh cm,I0] J ⟨⟨_,rfl,bK aB eg (a5 bg ch bh cm) J (bq J) rfl⟩,rfl,xl⟩ (⟨fun _=>⟨_,rfl,⟨_,_,rfl,⟨_,_,_,_,rfl,?_⟩,rfl⟩,U⟩,fun h=>absurd (show fH 10 (gD bs) by rw [f];exact hg) h⟩))));have h:=(fc.updT aq go);rw [pJ,Y,f];exact h
  refine aK 1 J (bI [.string (aN (bs.drop 1))] H (xD I G hg) J ?_);rintro _ _ ⟨_,_,rfl,rfl,rfl⟩ fp o;refine mv 1 J (aA (up none 0 0) J (aA (no 7) J (aE 2 J (aD (aV 1 J (fP J J J true (aG (bC J (sr (aA (.agg #[F0,S0]) J (mv 1 J ?_)))))))))));refine so aB (W.ext (ct.t (bf.t fp))) [F0,S0] o V J J J J fun _ em _ F=>(aE 1 J (bA (cI (aZ [.agg #[F0,S0],no 7] J ⟨⟨_,rfl,bK aB em [F0,S0] J (bq J) rfl⟩,rfl,xl⟩ ?_))));exact⟨fun h=>absurd (by rw [f] at h;exact h) hg,fun _=>⟨_,rfl,⟨_,_,rfl,rfl,rfl⟩,F⟩⟩
 by_cases X:bs.take 3= [226,136,146]
 ·have f:gD bs=bs.drop 3:=by unfold gD;rw [if_neg E,if_neg L,if_pos X]
  have Y:jV bs=true:=by unfold jV;rw [if_neg E,if_neg L,if_pos X]
  have de:3≤bs.length:=by have h:=congrArg List.length X;rw [eB] at h;simp only [fO,List.length_nil] at h;omega
  refine aK 1 J (dP [.string (aN bs),.string (aN ([43]))] (by have h:=qS (w:=v2) (bs:=bs) (ps:= [43]) hbs;rw [decide_eq_false (show¬bs.take ([43]:List Nat).length= [43] by exact E)] at h;exact h) J ?_);rintro _ fd ⟨_,rfl,gb,bd⟩;refine dO ?_;have M:=ai.trans bd;obtain rfl:=gb;refine aE 1 J (aT J (aV 1 J (dP [.string (aN bs),.string (aN ([45]))] (by have h:=qS (w:=fd) (bs:=bs) (ps:= [45]) hbs;rw [decide_eq_false (show¬bs.take ([45]:List Nat).length= [45] by exact L)] at h;exact h) J ?_)));rintro _ gx ⟨_,rfl,ga,az⟩;refine dO ?_;have H:=M.trans az;obtain rfl:=ga;refine aE 1 J (aT J (aV 1 J (dP [.string (aN bs),.string (aN ([226,136,146]))] (by have h:=qS (w:=gx) (bs:=bs) (ps:= [226,136,146]) hbs;rw [decide_eq_true (show bs.take ([226,136,146]:List Nat).length= [226,136,146] by exact X)] at h;exact h) J ?_)));rintro _ _ ⟨_,rfl,fa,ba⟩;refine dO ?_;have o:=H.trans ba;obtain rfl:=fa;refine aE 1 J (bC J (aK 1 J (uO (bs:=bs) (i:=3) J J J Tryz.underlying9 (bS 2 J (bT (aL (aD ?_)))))));have I:∀b,b∈bs.drop 3→b<256:=fun b hb=>hbs b (q9 hb);have G:(bs.drop 3).length≤17179869184:=by rw [iK];omega
  by_cases hg:fH 10 (bs.drop 3)
  ·have bu:=qO (base:=10) hg.2;refine aK 1 J (bI [.string (aN (bs.drop 3))] o ((xC I G hg).mono (Gv.imp (T2.imp (WR.imp o.size) Is.imp))) J ?_);rintro _ _ ⟨_,_,rfl,⟨cz,dg,dz,rfl,fo,fx⟩,rfl⟩ fk F;refine mv 1 J (aA (up cz dg dz) J (aA (no 0) J (aE 2 J (aD (aV 1 J (fP J J J false (aG (aT J (bB (aL (aD ?_)))))))))));refine aK 2 J (bI (a5 true cz dg dz) F (O8 fo fx) J ?_);rintro _ _ ⟨au,cp,bp,aw,rfl,fw⟩ gj U;have ao:=(W.ext (bd.t (az.t (ba.t (fk.t gj)))));refine so aB ao (a5 au cp bp aw) U V J J J J fun _ dl fm bo=>(aE 1 J (bA (aZ [O au cp bp aw,I0] J ⟨⟨_,rfl,bK aB dl (a5 au cp bp aw) J (bq J) rfl⟩,rfl,xl⟩ (⟨fun _=>⟨_,rfl,⟨_,_,rfl,⟨_,_,_,_,rfl,?_⟩,rfl⟩,bo⟩,fun h=>absurd (show fH 10 (gD bs) by rw [f];exact hg) h⟩))));have h:=(fw.updT ao fm);rw [pJ,Y,f];exact h
  refine aK 1 J (bI [.string (aN (bs.drop 3))] o (xD I G hg) J ?_);rintro _ _ ⟨_,_,rfl,rfl,rfl⟩ fz F;refine mv 1 J (aA (up none 0 0) J (aA (no 7) J (aE 2 J (aD (aV 1 J (fP J J J true (aG (bC J (sr (aA (.agg #[F0,S0]) J (mv 1 J ?_)))))))))));refine so aB (W.ext (bd.t (az.t (ba.t fz)))) [F0,S0] F V J J J J fun _ dr _ U=>(aE 1 J (bA (cI (aZ [.agg #[F0,S0],no 7] J ⟨⟨_,rfl,bK aB dr [F0,S0] J (bq J) rfl⟩,rfl,xl⟩ ?_))));exact⟨fun h=>absurd (by rw [f] at h;exact h) hg,fun _=>⟨_,rfl,⟨_,_,rfl,rfl,rfl⟩,U⟩⟩
 have f:gD bs=bs:=by unfold gD;rw [if_neg E,if_neg L,if_neg X]
 have Y:jV bs=false:=by unfold jV;rw [if_neg E,if_neg L,if_neg X]
 refine aK 1 J (dP [.string (aN bs),.string (aN ([43]))] (by have h:=qS (w:=v2) (bs:=bs) (ps:= [43]) hbs;rw [decide_eq_false (show¬bs.take ([43]:List Nat).length= [43] by exact E)] at h;exact h) J ?_);rintro _ ft ⟨_,rfl,fh,bw⟩;refine dO ?_;have M:=ai.trans bw;obtain rfl:=fh;refine aE 1 J (aT J (aV 1 J (dP [.string (aN bs),.string (aN ([45]))] (by have h:=qS (w:=ft) (bs:=bs) (ps:= [45]) hbs;rw [decide_eq_false (show¬bs.take ([45]:List Nat).length= [45] by exact L)] at h;exact h) J ?_)));rintro _ gi ⟨_,rfl,gf,bm⟩;refine dO ?_;have H:=M.trans bm;obtain rfl:=gf;refine aE 1 J (aT J (aV 1 J (dP [.string (aN bs),.string (aN ([226,136,146]))] (by have h:=qS (w:=gi) (bs:=bs) (ps:= [226,136,146]) hbs;rw [decide_eq_false (show¬bs.take ([226,136,146]:List Nat).length= [226,136,146] by exact X)] at h;exact h) J ?_)));rintro _ _ ⟨_,rfl,eh,ae⟩;refine dO ?_;have o:=H.trans ae;obtain rfl:=eh;refine aE 1 J (aT J (bB (bT (aL (aD ?_)))));have I:∀b,b∈bs→b<256:=hbs;have G:(bs).length≤17179869184:=by omega
 by_cases hg:fH 10 (bs)
 ·have bu:=qO (base:=10) hg.2;refine aK 1 J (bI [.string (aN bs)] o ((xC I G hg).mono (Gv.imp (T2.imp (WR.imp o.size) Is.imp))) J ?_);rintro _ _ ⟨_,_,rfl,⟨ar,ak,aj,rfl,dh,du⟩,rfl⟩ dx F;refine mv 1 J (aA (up ar ak aj) J (aA (no 0) J (aE 2 J (aD (aV 1 J (fP J J J false (aG (aT J (bB (aL (aD ?_)))))))))));refine aK 2 J (bI [F0,up ar ak aj] F (O9 dh du) J ?_);rintro _ _ ⟨ag,Z,ab,aa,rfl,ej⟩ ef U;have ah:=(W.ext (bw.t (bm.t (ae.t (dx.t ef)))));refine so aB ah (a5 ag Z ab aa) U V J J J J fun _ ci da bo=>(aE 1 J (bA (aZ [O ag Z ab aa,I0] J ⟨⟨_,rfl,bK aB ci (a5 ag Z ab aa) J (bq J) rfl⟩,rfl,xl⟩ (⟨fun _=>⟨_,rfl,⟨_,_,rfl,⟨_,_,_,_,rfl,?_⟩,rfl⟩,bo⟩,fun h=>absurd (show fH 10 (gD bs) by rw [f];exact hg) h⟩))));have h:=(ej.updT ah da);rw [pJ,Y,f];exact h
 refine aK 1 J (bI [.string (aN bs)] o (xD I G hg) J ?_);rintro _ _ ⟨_,_,rfl,rfl,rfl⟩ cv F;refine mv 1 J (aA (up none 0 0) J (aA (no 7) J (aE 2 J (aD (aV 1 J (fP J J J true (aG (bC J (sr (aA (.agg #[F0,S0]) J (mv 1 J ?_)))))))))));refine so aB (W.ext (bw.t (bm.t (ae.t cv)))) [F0,S0] F V J J J J fun _ br _ U=>(aE 1 J (bA (cI (aZ [.agg #[F0,S0],no 7] J ⟨⟨_,rfl,bK aB br [F0,S0] J (bq J) rfl⟩,rfl,xl⟩ ?_))));exact⟨fun h=>absurd (by rw [f] at h;exact h) hg,fun _=>⟨_,rfl,⟨_,_,rfl,rfl,rfl⟩,U⟩⟩
theorem VE (hb:b≤w.heap.size)(hbs:∀b,b∈bs→b<256)(hlen:bs.length≤17179869184)(ht:gD bs=tl)(hg:fH 10 tl)(hz:pJ bs=z):aQ aM 81 #[.string (aN bs)] w (Gv w (T2 (ZR b z) (Is (no 0)))):=
 (JR hbs hlen).mono fun e w' h=>by have h2:=h.1 (by rw [ht];exact hg);rw [hz] at h2;exact Gv.imp (T2.imp (ZR.imp hb) Is.imp) _ _ h2
theorem VD (hbs:∀b,b∈bs→b<256)(hlen:bs.length≤17179869184)(ht:gD bs=tl)(hg:¬fH 10 tl):aQ aM 81 #[.string (aN bs)] w (Gv w (T2 (Is (O false none 0 0)) (Is (no 7)))):=
 (JR hbs hlen).mono fun e w' h=>h.2 (by rw [ht];exact hg)
theorem VC (hx:Zi w sa Aa na ca x)(la:na≤4194304)(hS:Signs w):aQ aM 79 #[O sa Aa na ca] w (Gv w (Is (.string (aN (iX x))))):=by
 have Lx:=bP hx la;refine bU Tryz.func79 13 J (sr (bx (a5 sa Aa na ca) bN J J J fun H _ h _ _ E=>(aE 1 J (sr (pf H 1 J (bG (cE dY h J) J (bI [up Aa na ca] E (VT (hS.ext E) (hx.ext E).wi i9) J ?_)))))));rintro _ _ rfl G f;refine aE 1 J (aD (aD ?_));by_cases F:x<0
 ·refine bH (lo aB (h.ext G) (a5 sa Aa na ca) J J J (aX f (jH (hx.ext f) (aJ la J)) J ?_));rintro _ _ rfl _ o;refine aH J (tB F) (aG (bC J (aV 1 J (pL J J J (r:= .string (aN (([45])++(gE 10 (Int.natAbs x))))) J (fun w=>uT (a:= [45]) (b:=gE 10 (Int.natAbs x)) (by have:=DH (b:=10) (show (wd (Int.natAbs x)).length≤4194304 from Lx);show 1+_≤_;omega)) (aE 1 J (bA (cI (aZ [.string (aN (([45])++(gE 10 (Int.natAbs x))))] J ⟨rfl,xl⟩ ?_))))))));exact⟨_,rfl,(show Value.string _= .string (aN (iX x)) by rw [iX,if_pos F]),o⟩
 refine bH (lo aB (h.ext G) (a5 sa Aa na ca) J J J (aX f (jH (hx.ext f) (aJ la J)) J ?_));rintro _ _ rfl _ o;refine aH J (tC) (aG (aT J (bB (aL (sr (aE 2 J (bA (aZ [.string (aN (gE 10 (Int.natAbs x)))] J ⟨rfl,xl⟩ ?_))))))));exact⟨_,rfl,(show Value.string _= .string (aN (iX x)) by rw [iX,if_neg F]),o⟩
theorem NE {x:Nat}(h:x≤18446744073709551615):(wd x).length≤1:=kK (by rw [dJ,Nat.pow_one];omega)
theorem YS {n:Int}(h1: -9223372036854775808≤n)(h:n<0):IntKind.u64.wrap (IntKind.i64.wrap (0-n))=((Int.natAbs n:Nat):Int):=by
 by_cases h2:n= -9223372036854775808
 ·subst h2;decide
 rw [IntWalk.i64_in _ ⟨by omega,by omega⟩,IntWalk.u64_in _ ⟨by omega,by omega⟩];omega
theorem YR {n:Int}(h2:n≤9223372036854775807)(h:¬n<0):IntKind.u64.wrap n=((Int.natAbs n:Nat):Int):=by
 rw [IntWalk.u64_in _ ⟨by omega,by omega⟩];omega
theorem OK (hb:b≤w.heap.size)(hx:Zi w sa Aa na ca x)(la:na≤17179869183):aQ aM 56 #[O sa Aa na ca] w (Gv w (ZR b (-x))):=by
 refine Calls.mono (R:=Gv w (ZR w.heap.size (-x))) ?_ (Gv.imp (ZR.imp hb));have Lx:=bP hx la;refine bU Tryz.func56 9 J (sr (bx (a5 sa Aa na ca) bN J J J fun g1 _ h _ _ X=>(bV [F0,S0] X h.lt J fun _ _ Z L _ e8 F=>(aG (sr (pf g1 0 J (bG (cE eW (h.ext e8) J) J (aA (.bool (!sa)) J (pf g1 1 J (bG (cE dY (h.ext e8) J) J ?_))))))))));have ae:ln (sg (!sa) (Int.natAbs x))≤17179869183:=by rw [kC];exact Lx
 refine bI [.bool (!sa),up Aa na ca] F (l8 F.size (hx.ext F).wi (aJ la J)) J ?_;rintro _ _ ⟨o,H,E,G,rfl,Y⟩ M V;have f:=(Z.ext M);refine so aB f (a5 o H E G) V L J J J J fun _ I U W=>(aG (bA (aZ [O o H E G] J ⟨⟨_,rfl,bK aB I (a5 o H E G) J (bq J) rfl⟩,xl⟩ ?_)));exact⟨_,rfl,⟨_,_,_,_,rfl,((Y.updT f U)).cast ((zX _ _).trans (by rw [hx.sg]))⟩,W⟩
theorem nF {n:Int}(hb:b≤w.heap.size)(h1: -9223372036854775808≤n:=by decide)(h2:n≤9223372036854775807:=by decide):aQ aM 65 #[no n] w (Gv w (ZR b (n))):=by
 refine Calls.mono (R:=Gv w (ZR w.heap.size (n))) ?_ (Gv.imp (ZR.imp hb));refine bU Tryz.func65 14 J (sr (nI [F0,S0] bN J fun _ _ ah ai _ h=>(aG (aD (aD ?_)))));by_cases U:n<0
 ·refine aK 1 J (aH J (xU U) (aG (bC J (aV 1 J (aA (no (IntKind.i64.wrap (0-n))) J (eQ J J (v:= t9 (IntKind.u64.wrap (IntKind.i64.wrap (0-n)))) (v':= t9 ((Int.natAbs n):Nat)) (by rw [YS h1 U]) (iF J J (k:=1) (e:=43) [t9 ((Int.natAbs n):Nat)] ye fun g6 _ ae=>?_)))))));have o9:=O1.mk_ (x:=(Int.natAbs n)) (b:=w.heap.size) ae h.size;have ag:=ae.ext;have f:=h.trans ag;have bd:ln (sg true (Int.natAbs n))≤1:=by rw [kC];exact (NE (show Int.natAbs n≤18446744073709551615 by omega))
  refine bI [we,up (some ⟨g6,0,none⟩) 1 1] f (l8 f.size (EH o9 (show Int.natAbs n≤18446744073709551615 by omega)) yd) J ?_;rintro _ _ ⟨W,I,V,L,rfl,av⟩ au H;have o:=(ah.ext (ag.t au));refine so aB o (a5 W I V L) H ai J J J J fun _ aa aq Y=>(aG (bA (cI (aZ [O W I V L] J ⟨⟨_,rfl,bK aB aa (a5 W I V L) J (bq J) rfl⟩,xl⟩ ?_))));exact⟨_,rfl,⟨_,_,_,_,rfl,((av.updT o aq)).cast (by rw [uW];omega)⟩,Y⟩
 refine aK 1 J (aH J (tI) (aG (aT J (bB (aL (aV 1 J (eQ J J (v:= t9 (IntKind.u64.wrap n)) (v':= t9 ((Int.natAbs n):Nat)) (by rw [YR h2 U]) (iF J J (k:=1) (e:=43) [t9 ((Int.natAbs n):Nat)] ye fun am _ E=>?_))))))));have ar:=O1.mk_ (x:=(Int.natAbs n)) (b:=w.heap.size) E h.size;have aj:=E.ext;have f:=h.trans aj;have az:ln (sg false (Int.natAbs n))≤1:=by rw [kC];exact (NE (show Int.natAbs n≤18446744073709551615 by omega))
 refine bI [F0,up (some ⟨am,0,none⟩) 1 1] f (l8 f.size (EH ar (show Int.natAbs n≤18446744073709551615 by omega)) yd) J ?_;rintro _ _ ⟨G,X,Z,M,rfl,ao⟩ ak H;have F:=(ah.ext (aj.t ak));refine so aB F (a5 G X Z M) H ai J J J J fun _ ab aw Y=>(aG (bA (aZ [O G X Z M] J ⟨⟨_,rfl,bK aB ab (a5 G X Z M) J (bq J) rfl⟩,xl⟩ ?_)));exact⟨_,rfl,⟨_,_,_,_,rfl,((ao.updT F aw)).cast (by rw [nT];omega)⟩,Y⟩
def eZ (y:Int):Int:=if y=0 then 4 else 0
def qT (x y:Int):Int:=if y=0 then 0 else x.tdiv y
def rT (x y:Int):Int:=if y=0 then 0 else x.tmod y
def qF (x y:Int):Int:=if y=0 then 0 else if 0≤bM (x.tmod y) 0*bM y 0 then x.tdiv y else x.tdiv y-1
def rF (x y:Int):Int:=if y=0 then 0 else if 0≤bM (x.tmod y) 0*bM y 0 then x.tmod y else x.tmod y+y
def eX (x y:Int):Int:=if y=0 then 4 else if x.natAbs%y.natAbs=0 then 0 else 8
theorem nU (x:Int):(x<0∧bM x 0= -1)∨(x=0∧bM x 0=0)∨(0<x∧bM x 0=1):=by unfold bM;split <;> (try split) <;> omega
theorem a1L (h0:y≠0)(hk:0≤bM (x.tmod y) 0*bM y 0):Flo (x.tdiv y) (x.tmod y) x y:=by
 have f:=nS (x:=x) h0;refine⟨Int.tdiv_mul_add_tmod x y,fun h=>?_,fun h=>?_⟩
 ·have e:bM y 0=1:=by have:=nU y;omega
  rw [e] at hk;have:=nU (x.tmod y);omega
 have e:bM y 0= -1:=by have:=nU y;omega
 rw [e] at hk;have:=nU (x.tmod y);omega
theorem a1K (h0:y≠0)(hk:¬0≤bM (x.tmod y) 0*bM y 0):Flo (x.tdiv y-1) (x.tmod y+y) x y:=by
 have f:=nS (x:=x) h0;have he:=Int.tdiv_mul_add_tmod x y;refine⟨by rw [Int.sub_mul,Int.one_mul];omega,fun h=>?_,fun h=>?_⟩
 ·have e:bM y 0=1:=by have:=nU y;omega
  rw [e] at hk;have:=nU (x.tmod y);omega
 have e:bM y 0= -1:=by have:=nU y;omega
 rw [e] at hk;have:=nU (x.tmod y);omega
theorem FO (h0:y≠0:=by omega):Flo (qF x y) (rF x y) x y:=by
 unfold qF rF;rw [if_neg h0,if_neg h0];by_cases f:0≤bM (x.tmod y) 0*bM y 0
 ·rw [if_pos f,if_pos f];exact a1L h0 f
 rw [if_neg f,if_neg f];exact a1K h0 f
theorem MT (h:ln x≤N):ln (qT x y)≤N:=by
 unfold qT;split
 ·exact bX _
 exact a8 (jG _ _) h
theorem MR (h:ln x≤N):ln (rT x y)≤N:=by
 unfold rT;split
 ·exact bX _
 exact a8 (tK _ _) h
theorem MU (h:ln x≤N):ln (qF x y)≤N+2:=by
 unfold qF;split
 ·exact bX _
 split
 ·exact a8 (jG _ _) (a8 h i9)
 exact a8 (jY (a8 (jG _ _) h) (show ln 1≤1 by decide+kernel)) i9
theorem a0v (hb:b≤w.heap.size)(hx:Zi w s A n cap x)(la:n≤1048576)(hy:Zi w t B m cap' y)(lb:m≤1048576):aQ aM 97 #[O s A n cap,O t B m cap'] w (Gv w (T3 (ZR b (qT x y)) (ZR b (rT x y)) (Is (no (eZ y))))):=by
 by_cases h0:y=0
 ·simp only [qT,rT,eZ,if_pos h0];exact a05 hb hx (a8 la yd) hy (a8 lb yd) h0
 simp only [qT,rT,eZ,if_neg h0];exact FJ hb hx (a8 la yd) hy (a8 lb yd) h0
theorem F6 {nb:Nat}(hb:b≤w.heap.size)(hx:Zi w sa Aa na ca x)(la:na≤1048576)(hy:Zi w sb Ab nb cb y)(lb:nb≤1048576):aQ aM 61 #[O sa Aa na ca,O sb Ab nb cb] w (Gv w (T3 (ZR b (qF x y)) (ZR b (rF x y)) (Is (no (eZ y))))):=by
 refine Calls.mono (R:=Gv w (T3 (ZR w.heap.size (qF x y)) (ZR w.heap.size (rF x y)) (Is (no (eZ y))))) ?_ (Gv.imp (T3.imp (ZR.imp hb) (ZR.imp hb) Is.imp));have Lx:=bP hx la;have Ly:=bP hy lb;refine bU Tryz.func61 38 J (sr (bx (a5 sa Aa na ca) bN J J J fun _ _ iz _ _ jk=>(fY (a5 sb Ab nb cb) jk iz.lt J J J fun g6 _ dy _ _ e8 jj=>(bV [F0,S0] jj dy.lt J fun dt _ dl ef _ du ji=>(bV [F0,S0] ji dl.lt J fun dr _ df dx _ bp ei=>(aE 1 J (sr (lo aB (iz.ext (e8.t (du.t bp))) (a5 sa Aa na ca) J J J (lo aB (dy.ext (du.t bp)) (a5 sb Ab nb cb) J J J ?_)))))))));have fw:ln (qT x y)≤1048576:=MT Lx;have ej:ln (rT x y)≤1048576:=MR Lx;refine aX ei (a0v ei.size (hx.ext ei) (aJ la J) (hy.ext ei) (aJ lb J)) J ?_;rintro _ _ ⟨_,_,_,rfl,⟨V,X,Y,W,rfl,eh⟩,⟨H,E,G,I,rfl,bo⟩,rfl⟩ bg jp;refine mv 1 J (aA (O V X Y W) J (aA (O H E G I) J (aA (no (eZ y)) J (bV [F0,S0] jp (df.ext bg).lt J fun dw _ fd fb _ U jo=>(bV [F0,S0] jo fd.lt J fun eg _ ik ez _ L jl=>?_)))));have ae:=(fd.ext L);refine so aB ae (a5 V X Y W) jl fb J J J J fun _ de M jm=>?_;have aa:=(ik.vN M);refine so aB aa (a5 H E G I) jm ez J J J J fun _ au F cv=>(aE 1 J (aD (aD ?_)));by_cases h0:y=0
 ·have he:eZ y=4:=if_pos h0;refine dW cM 10 [] [Is (no (eZ y)),Is (we),Is (we),Is (undef),Is (undef),Is (undef),Is (undef),Is (undef),Is (undef),Is (we)] [[],[0],[1],[2],[2,3],[2],[2,5],[2,4,6],[2,7],[2,8]] rfl (bY J ?_ ?_ ?_ ?_ (bY J ?_ ?_ ?_ ?_ (cG J ?_ (cG J ?_ dN)))) ?_
  ·exact fun _ _=>aC (mv 1 J (aI J))
  ·exact fun _ _=>aO J (aC (aH J (pO i9) (aI J)))
  ·exact fun _ _=>aO J (aC (mv 1 J (aI J)))
  ·exact fun _ _=>aO J (aC (mv 1 J (aI J)))
  ·exact fun _ _=>aY J (aC (mv 1 J (aI J)))
  ·exact fun _ _=>aO J (aC (mv 1 J (aI J)))
  ·exact fun _ _=>aY J (aC (mv 1 J (aI J)))
  ·exact fun _ _=>aY J (aO J (aC (mv 1 J (aI J))))
  ·exact fun _ _=>aY J (aC (mv 1 J (aI J)))
  ·exact fun _ _=>aY J (aC (aA (we) J (aI J)))
  intro iu ah;have f:=cv.trans ah;refine d6 J (d6 J (aY J (aC (cF (dM (aL ?_))))));refine bC J (aD (f9 [(3,i5 g6 0),(4,i5 dt 0),(5,i5 dr 0),(7,i5 dw 0),(8,i5 eg 0),(9,no (eZ y))] (aP J) ?_));obtain⟨em,hv,av⟩:=gH iu;have o:=f.trans av;have bw:=((((dl.ext (bp.t (bg.t (U.t L)))).vN M).vN F).ext (ah.t av));obtain⟨gj,fx,fi,bm,_⟩:=gP (a5 V X Y W) 0 aB bw (a5 V X Y W) rfl;have ab:=bm.ext o ef;have ci:=(((((df.ext (bg.t (U.t L))).vN M).vN F).ext (ah.t av)).vN bm);obtain⟨ga,fo,fk,dm,_⟩:=gP (a5 H E G I) 0 aB ci (a5 H E G I) rfl;have bh:=dm.ext ab dx;refine gJ cM em [O V X Y W,O H E G I,no (eZ y),undef,undef,no (eZ y)] [em,gj,ga] [3,4] [[],[],[],[0],[1],[2]] [(0,0),(1,0),(1,1),(2,0),(2,1),(2,2),(3,0),(4,1),(5,2)] J hv ?_ ?_
  ·exact aR J (cS J (bK aB ((de.vN F).ext (ah.t av)) (a5 V X Y W) J (bq J) J)) (aR J (cS J (bK aB (au.ext (ah.t av)) (a5 H E G I) J (bq J) J)) (aR J (cS J (bK aB ((au.ext (ah.t av)).vN bm) (a5 H E G I) J (bq J) J)) (aR J (cC J) (aR J (cC J) (aR J (cC J) (fV _ J J J J J J (fQ J J fx) (fV _ J J J J J J (fQ J J fo) (aR J (kA J) gI))))))))
  refine fU [(3,i5 g6 0),(4,i5 dt 0),(5,i5 dr 0),(7,i5 dw 0),(8,i5 eg 0),(6,no (eZ y))] (aP J) (aL (bA (cI (aZ [O V X Y W,O H E G I,no (eZ y)] J ⟨⟨_,rfl,bK aB (fi.vN dm) (a5 V X Y W) J (bq J) rfl⟩,⟨_,rfl,bK aB fk (a5 H E G I) J (bq J) rfl⟩,rfl,xl⟩ ?_))));exact⟨_,rfl,⟨_,_,_,rfl,⟨_,_,_,_,rfl,(((((((eh.ext (U.t L)).updT ae M).updT aa F).ext (ah.t av)).updT bw bm).updT ci dm)).cast (by simp only [qT,rT,qF,rF,if_pos h0])⟩,⟨_,_,_,_,rfl,(((((((bo.ext (U.t L)).updT ae M).updT aa F).ext (ah.t av)).updT bw bm).updT ci dm)).cast (by simp only [qT,rT,qF,rF,if_pos h0])⟩,rfl⟩,bh⟩
 have he:eZ y=0:=if_neg h0;have hq:qT x y=x.tdiv y:=if_neg h0;have hr:rT x y=x.tmod y:=if_neg h0;by_cases hk:0≤bM (rT x y) 0*bM y 0
 ·refine dW cM 10 [] [Is (no (eZ y)),Is (wk),Is (wk),Is (O H E G I),Is (no (bM (rT x y) 0)),Is (O sb Ab nb cb),Is (no (bM y 0)),Is (no (bM (rT x y) 0*bM y 0)),Is (we),Is (we)] [[],[0],[1],[2],[2,3],[2],[2,5],[2,4,6],[2,7],[2,8]] rfl (bY J ?_ ?_ ?_ ?_ (bY J ?_ ?_ ?_ ?_ (cG J ?_ (cG J ?_ dN)))) ?_
  ·exact fun _ _=>aC (mv 1 J (aI J))
  ·exact fun _ _=>aO J (aC (aH J (pP i9) (aI J)))
  ·exact fun _ _=>aO J (aC (mv 1 J (aI J)))
  ·exact fun _ gi=>aO J (aC (lo aB (au.ext gi) (a5 H E G I) J J J (aI J)))
  ·intro _ ey;have f:=cv.trans ey;refine aY J (aC (aX f (gR ((((bo.ext (U.t L)).updT ae M).updT aa F).ext ey).zi (bo.le (aJ ej J))) J ?_));rintro _ _ rfl ig o;exact bQ J ig rfl
  ·exact fun _ ix=>aO J (aC (lo aB ((((dy.ext (du.t (bp.t (bg.t (U.t L))))).vN M).vN F).ext ix) (a5 sb Ab nb cb) J J J (aI J)))
  ·intro _ jb;have f:=cv.trans jb;refine aY J (aC (aX f (gR (hy.ext f) (aJ lb J)) J ?_));rintro _ _ rfl gf o;exact bQ J gf rfl
  ·exact fun _ _=>aY J (aO J (aC (eC J J J (bM (rT x y) 0*bM y 0) (yI J (by have:=zZ (rT x y) 0 y 0;omega) (by have:=zZ (rT x y) 0 y 0;omega)) (aI J))))
  ·exact fun _ _=>aY J (aC (aH J (tR (h:=hk)) (aI J)))
  ·exact fun _ _=>aY J (aC (aA (we) J (aI J)))
  intro jf aj;have f:=cv.trans aj;refine d6 J (d6 J (aY J (aC (cF (dM (aL ?_))))));refine bC J (aD (f9 [(3,i5 g6 0),(4,i5 dt 0),(5,i5 dr 0),(7,i5 dw 0),(8,i5 eg 0),(9,no (eZ y))] (aP J) ?_));obtain⟨fc,hv,ao⟩:=gH jf;have o:=f.trans ao;have cp:=((((dl.ext (bp.t (bg.t (U.t L)))).vN M).vN F).ext (aj.t ao));obtain⟨fy,fq,fv,bu,_⟩:=gP (a5 V X Y W) 0 aB cp (a5 V X Y W) rfl;have ab:=bu.ext o ef;have ct:=(((((df.ext (bg.t (U.t L))).vN M).vN F).ext (aj.t ao)).vN bu);obtain⟨io,fj,fe,dh,_⟩:=gP (a5 H E G I) 0 aB ct (a5 H E G I) rfl;have bh:=dh.ext ab dx;refine gJ cM fc [O V X Y W,O H E G I,no (eZ y),undef,undef,no (eZ y)] [fc,fy,io] [3,4] [[],[],[],[0],[1],[2]] [(0,0),(1,0),(1,1),(2,0),(2,1),(2,2),(3,0),(4,1),(5,2)] J hv ?_ ?_
  ·exact aR J (cS J (bK aB ((de.vN F).ext (aj.t ao)) (a5 V X Y W) J (bq J) J)) (aR J (cS J (bK aB (au.ext (aj.t ao)) (a5 H E G I) J (bq J) J)) (aR J (cS J (bK aB ((au.ext (aj.t ao)).vN bu) (a5 H E G I) J (bq J) J)) (aR J (cC J) (aR J (cC J) (aR J (cC J) (fV _ J J J J J J (fQ J J fq) (fV _ J J J J J J (fQ J J fj) (aR J (kA J) gI))))))))
  refine fU [(3,i5 g6 0),(4,i5 dt 0),(5,i5 dr 0),(7,i5 dw 0),(8,i5 eg 0),(6,no (eZ y))] (aP J) (aL (bA (cI (aZ [O V X Y W,O H E G I,no (eZ y)] J ⟨⟨_,rfl,bK aB (fv.vN dh) (a5 V X Y W) J (bq J) rfl⟩,⟨_,rfl,bK aB fe (a5 H E G I) J (bq J) rfl⟩,rfl,xl⟩ ?_))));exact⟨_,rfl,⟨_,_,_,rfl,⟨_,_,_,_,rfl,(((((((eh.ext (U.t L)).updT ae M).updT aa F).ext (aj.t ao)).updT cp bu).updT ct dh)).cast (by simp only [qF,rF,if_neg h0,←hr,hq,if_pos hk])⟩,⟨_,_,_,_,rfl,(((((((bo.ext (U.t L)).updT ae M).updT aa F).ext (aj.t ao)).updT cp bu).updT ct dh)).cast (by simp only [qF,rF,if_neg h0,←hr,hq,if_pos hk])⟩,rfl⟩,bh⟩
 refine dW cM 10 [] [Is (no (eZ y)),Is (wk),Is (wk),Is (O H E G I),Is (no (bM (rT x y) 0)),Is (O sb Ab nb cb),Is (no (bM y 0)),Is (no (bM (rT x y) 0*bM y 0)),Is (wk),Is (wk)] [[],[0],[1],[2],[2,3],[2],[2,5],[2,4,6],[2,7],[2,8]] rfl (bY J ?_ ?_ ?_ ?_ (bY J ?_ ?_ ?_ ?_ (cG J ?_ (cG J ?_ dN)))) ?_
 ·exact fun _ _=>aC (mv 1 J (aI J))
 ·exact fun _ _=>aO J (aC (aH J (pP i9) (aI J)))
 ·exact fun _ _=>aO J (aC (mv 1 J (aI J)))
 ·exact fun _ gy=>aO J (aC (lo aB (au.ext gy) (a5 H E G I) J J J (aI J)))
 ·intro _ en;have f:=cv.trans en;refine aY J (aC (aX f (gR ((((bo.ext (U.t L)).updT ae M).updT aa F).ext en).zi (bo.le (aJ ej J))) J ?_));rintro _ _ rfl fz o;exact bQ J fz rfl
 ·exact fun _ jc=>aO J (aC (lo aB ((((dy.ext (du.t (bp.t (bg.t (U.t L))))).vN M).vN F).ext jc) (a5 sb Ab nb cb) J J J (aI J)))
 ·intro _ iw;have f:=cv.trans iw;refine aY J (aC (aX f (gR (hy.ext f) (aJ lb J)) J ?_));rintro _ _ rfl ie o;exact bQ J ie rfl
 ·exact fun _ _=>aY J (aO J (aC (eC J J J (bM (rT x y) 0*bM y 0) (yI J (by have:=zZ (rT x y) 0 y 0;omega) (by have:=zZ (rT x y) 0 y 0;omega)) (aI J))))
 ·exact fun _ _=>aY J (aC (aH J (mJ) (aI J)))
 ·exact fun _ _=>aY J (aC (aA (wk) J (aI J)))
 intro _ Z;have f:=cv.trans Z;refine d6 J (d6 J (aY J (aC (cF (dM (aL ?_))))));refine aT J (bB (aL (aD ?_)));have jt:ln ((qT x y)-1)≤1048577:=a8 (jY fw (show ln (1)≤1 by decide+kernel)) yd;refine dW cM 3 [] [Is (O V X Y W),ZR w.heap.size (1),ZR w.heap.size ((qT x y)-1)] [[],[],[0,1]] rfl (cG J ?_ (cG J ?_ (cG J ?_ dN))) ?_
 ·exact fun _ ir=>aC (lo aB ((de.vN F).ext (Z.t ir)) (a5 V X Y W) J J J (aI J))
 ·intro _ jd;have o:=f.trans jd;refine aC (bI [no 1] o (nF o.size) J ?_);rintro _ _ ⟨_,_,_,_,rfl,je⟩ iq ab;exact bQ J iq ⟨_,_,_,_,rfl,je⟩
 ·intro _ ew;have o:=f.trans ew;refine aO J (aW J ?_);rintro _ _ ⟨_,_,_,_,rfl,dg⟩ _ ia;have dg:=dg.ext ia;refine aC ?_;have jq:ln ((qT x y)-1)≤1048577:=a8 (jY fw (show ln (1)≤1 by decide+kernel)) yd;refine aX o (BK o.size ((((eh.ext (U.t L)).updT ae M).updT aa F).ext (Z.t ew)).zi (eh.le (aJ fw J)) dg.zi (dg.le (a8 (show ln (1)≤1 by decide+kernel) yd))) J ?_;rintro _ _ ⟨_,_,_,_,rfl,ib⟩ gg ab;exact bQ J gg ⟨_,_,_,_,rfl,ib⟩
 intro _ ag;have o:=f.trans ag;refine aO J (aW J ?_);rintro _ _ ⟨_,_,_,_,rfl,fa⟩ _ gb;have fa:=fa.ext gb;refine aW J ?_;rintro _ _ ⟨az,ba,aw,bf,rfl,ee⟩ _ iy;have ee:=ee.ext iy;refine aC ?_;have cz:=((de.vN F).ext (Z.t ag));refine so aB cz (a5 az ba aw bf) o fb J J J J fun _ fp bd ab=>(cF (dM (aL (sr (lo aB ((au.ext (Z.t ag)).vN bd) (a5 H E G I) J J J (lo aB (((((dy.ext (du.t (bp.t (bg.t (U.t L))))).vN M).vN F).ext (Z.t ag)).vN bd) (a5 sb Ab nb cb) J J J ?_))))));have jr:ln ((rT x y)+y)≤1048577:=a8 (eK ej Ly) yd;refine aX ab (qR ab.size (((((bo.ext (U.t L)).updT ae M).updT aa F).ext (Z.t ag)).updT cz bd).zi (bo.le (aJ ej J)) (hy.ext ab) (aJ lb J)) J ?_;rintro _ _ ⟨aq,ak,ar,am,rfl,ij⟩ bi bh;have cj:=(((au.ext (Z.t ag)).vN bd).ext bi);refine so aB cj (a5 aq ak ar am) bh ez J J J J fun gx dz br ge=>(aG (aD (f9 [(4,i5 dt 0),(5,i5 dr 0),(7,i5 dw 0),(8,i5 eg 0)] (aP J) ?_)));obtain⟨el,hv,ai⟩:=gH gx;have cm:=((((((((dl.ext (bp.t (bg.t (U.t L)))).vN M).vN F).ext (Z.t ag)).vN bd).ext bi).vN br).ext ai);obtain⟨il,fh,ft,bj,_⟩:=gP (a5 az ba aw bf) 0 aB cm (a5 az ba aw bf) rfl;have ch:=(((((((((df.ext (bg.t (U.t L))).vN M).vN F).ext (Z.t ag)).vN bd).ext bi).vN br).ext ai).vN bj);obtain⟨ja,fg,fm,da,_⟩:=gP (a5 aq ak ar am) 0 aB ch (a5 aq ak ar am) rfl;refine gJ cM el [O az ba aw bf,O aq ak ar am,undef,undef,I0] [el,il,ja] [2,3] [[],[],[0],[1],[]] [(0,0),(1,0),(1,1),(2,0),(3,1),(4,2)] J hv ?_ ?_
 ·exact aR J (cS J (bK aB (((fp.ext bi).vN br).ext ai) (a5 az ba aw bf) J (bq J) J)) (aR J (cS J (bK aB (dz.ext ai) (a5 aq ak ar am) J (bq J) J)) (aR J (cS J (bK aB ((dz.ext ai).vN bj) (a5 aq ak ar am) J (bq J) J)) (fV _ J J J J J J (fQ J J fh) (fV _ J J J J J J (fQ J J fg) (aR J (kA J) gI)))))
 refine fU [(4,i5 dt 0),(5,i5 dr 0),(6,no 0)] (aP J) (aL (bA (aZ [O az ba aw bf,O aq ak ar am,I0] J ⟨⟨_,rfl,bK aB (ft.vN da) (a5 az ba aw bf) J (bq J) rfl⟩,⟨_,rfl,bK aB fm (a5 aq ak ar am) J (bq J) rfl⟩,rfl,xl⟩ ?_)));exact⟨_,rfl,⟨_,_,_,rfl,⟨_,_,_,_,rfl,(((((((ee.updT cz bd).ext bi).updT cj br).ext ai).updT cm bj).updT ch da)).cast (by simp only [qF,rF,if_neg h0,←hr,hq,if_neg hk])⟩,⟨_,_,_,_,rfl,(((((ij.updT cj br).ext ai).updT cm bj).updT ch da)).cast (by simp only [qF,rF,if_neg h0,←hr,hq,if_neg hk])⟩,(show (no 0:aF)=_ by simp only [eX,eZ,if_neg h0])⟩,(da.ext (bj.ext (ge.trans ai) ef) dx)⟩
theorem FP (h0:y≠0)(h:r=0∨(r<0↔y<0)):0≤bM r 0*bM y 0:=by
 rcases nU r with⟨a,e⟩ | ⟨a,e⟩ | ⟨a,e⟩ <;> rcases nU y with⟨b,f⟩ | ⟨b,f⟩ | ⟨b,f⟩ <;> rw [e,f] <;> omega
theorem OW (h0:y≠0)(h1:r≠0)(h:¬(r<0↔y<0)):¬0≤bM r 0*bM y 0:=by
 rcases nU r with⟨a,e⟩ | ⟨a,e⟩ | ⟨a,e⟩ <;> rcases nU y with⟨b,f⟩ | ⟨b,f⟩ | ⟨b,f⟩ <;> rw [e,f] <;> omega
theorem a0d (h:n=ln x):0<n↔x≠0:=by
 have h2:ln x=0↔x.natAbs=0:=oA;omega
theorem a0u (hb:b≤w.heap.size)(hx:Zi w s A n cap x)(la:n≤4194304)(hy:Zi w t B m cap' y)(lb:m≤4194304):aQ aM 83 #[O s A n cap,O t B m cap'] w (Gv w (TA (ZR b (qT x y)) (ZR b (rT x y)) (Is (no (eZ y))))):=by
 by_cases h0:y=0
 ·simp only [qT,rT,eZ,if_pos h0];refine (RF hx (a8 la yd) hy (a8 lb yd) h0).mono ?_;rintro e w' ⟨s,A,n,c,s',B,m,c',rfl,h1,h2,o,f⟩
  exact⟨_,rfl,⟨_,_,_,rfl,⟨_,_,_,_,rfl,h1.mono hb⟩,⟨_,_,_,_,rfl,h2.mono hb⟩,rfl,fun g hg hg'=>by
   obtain⟨p,G,h⟩:=tQ hg
   obtain⟨q,F,E⟩:=tQ hg'
   exact f p q G F (h.trans E.symm)⟩,o⟩
 simp only [qT,rT,eZ,if_neg h0];refine (HH hx (a8 la yd) hy (a8 lb yd) h0).mono ?_;rintro e w' ⟨s,A,n,c,s',B,m,c',rfl,h1,h2,o,f⟩
 exact⟨_,rfl,⟨_,_,_,rfl,⟨_,_,_,_,rfl,h1.mono hb⟩,⟨_,_,_,_,rfl,h2.mono hb⟩,rfl,fun g hg hg'=>by
  obtain⟨p,G,h⟩:=tQ hg
  obtain⟨q,F,E⟩:=tQ hg'
  exact f p q G F (h.trans E.symm)⟩,o⟩
theorem NO {nb:Nat}(hb:b≤w.heap.size)(hx:Zi w sa Aa na ca x)(la:na≤4194304)(hy:Zi w sb Ab nb cb y)(lb:nb≤4194304):aQ aM 75 #[O sa Aa na ca,O sb Ab nb cb] w (Gv w (TA (ZR b (qF x y)) (ZR b (rF x y)) (Is (no (eZ y))))):=by
 refine Calls.mono (R:=Gv w (TA (ZR w.heap.size (qF x y)) (ZR w.heap.size (rF x y)) (Is (no (eZ y))))) ?_ (Gv.imp (TA.imp (ZR.imp hb) (ZR.imp hb) Is.imp));have Lx:=bP hx la;have Ly:=bP hy lb;refine bU Tryz.func75 41 J (sr (bx (a5 sa Aa na ca) bN J J J fun _ _ lv _ _ mq=>(fY (a5 sb Ab nb cb) mq lv.lt J J J fun g6 _ dr _ _ e8 mp=>(bV [F0,S0] mp dr.lt J fun bm _ ci cz _ df mo=>(bV [F0,S0] mo ci.lt J fun bj _ bw cv _ ah ia=>(aE 1 J (sr (lo aB (lv.ext (e8.t (df.t ah))) (a5 sa Aa na ca) J J J (lo aB (dr.ext (df.t ah)) (a5 sb Ab nb cb) J J J ?_)))))))));have fk:ln (qT x y)≤4194304:=MT Lx;have ij:ln (rT x y)≤4194304:=MR Lx;refine aX ia (a0u ia.size (hx.ext ia) (aJ la J) (hy.ext ia) (aJ lb J)) J ?_;rintro _ _ ⟨_,_,_,rfl,⟨M,V,W,U,rfl,dm⟩,⟨Z,E,f,F,rfl,ai⟩,rfl,fe⟩ ab mx;refine mv 1 J (aA (O M V W U) J (aA (O Z E f F) J (aA (no (eZ y)) J (bV [F0,S0] mx (bw.ext ab).lt J fun fj _ iy fz _ L mw=>(bV [F0,S0] mw iy.lt J fun ag _ kw ft _ H mr=>?_)))));have aa:=(iy.ext H);refine so aB aa (a5 M V W U) mr fz J J J J fun _ ar I mt=>?_;have Y:=(kw.vN I);refine so aB Y (a5 Z E f F) mt ft J J J J fun ie G h ct=>(aE 1 J (aD (aD ?_)));by_cases h0:y=0
 ·have he:eZ y=4:=if_pos h0;refine aK 1 J (aH J (gC i9) (mv 5 J (aA (wk) J (mv 6 J (aA (wk) J (aG (aT J (bB (aL (aD (f9 [(4,i5 bm 0),(5,i5 bj 0),(7,i5 fj 0),(8,i5 ag 0),(9,no (eZ y))] (aP J) ?_)))))))))));obtain⟨jx,hv,ee⟩:=gH ie;have o:=ct.trans ee;have gg:=((((ci.ext (ah.t (ab.t (L.t H)))).vN I).vN h).ext ee);obtain⟨my,ky,mb,gi,_⟩:=gP (a5 M V W U) 0 aB gg (a5 M V W U) rfl;have X:=gi.ext o cz;have fw:=(((((bw.ext (ab.t (L.t H))).vN I).vN h).ext ee).vN gi);obtain⟨mu,me,mf,gy,_⟩:=gP (a5 Z E f F) 0 aB fw (a5 Z E f F) rfl;have ae:=gy.ext X cv;refine gJ cM jx [O M V W U,O Z E f F,no (eZ y),undef,undef,no (eZ y)] [jx,my,mu] [3,4] [[],[],[],[0],[1],[2]] [(0,0),(1,0),(1,1),(2,0),(2,1),(2,2),(3,0),(4,1),(5,2)] J hv ?_ ?_
  ·exact aR J (cS J (bK aB ((ar.vN h).ext ee) (a5 M V W U) J (bq J) J)) (aR J (cS J (bK aB (G.ext ee) (a5 Z E f F) J (bq J) J)) (aR J (cS J (bK aB ((G.ext ee).vN gi) (a5 Z E f F) J (bq J) J)) (aR J (cC J) (aR J (cC J) (aR J (cC J) (fV _ J J J J J J (fQ J J ky) (fV _ J J J J J J (fQ J J me) (aR J (kA J) gI))))))))
  refine fU [(4,i5 bm 0),(5,i5 bj 0),(6,no (eZ y))] (aP J) (aL (bA (aZ [O M V W U,O Z E f F,no (eZ y)] J ⟨⟨_,rfl,bK aB (mb.vN gy) (a5 M V W U) J (bq J) rfl⟩,⟨_,rfl,bK aB mf (a5 Z E f F) J (bq J) rfl⟩,rfl,xl⟩ ?_)));exact⟨_,rfl,⟨_,_,_,rfl,⟨_,_,_,_,rfl,(((((((dm.ext (L.t H)).updT aa I).updT Y h).ext ee).updT gg gi).updT fw gy)).cast (by simp only [qT,rT,qF,rF,if_pos h0])⟩,⟨_,_,_,_,rfl,(((((((ai.ext (L.t H)).updT aa I).updT Y h).ext ee).updT gg gi).updT fw gy)).cast (by simp only [qT,rT,qF,rF,if_pos h0])⟩,rfl,fe⟩,ae⟩
 have he:eZ y=0:=if_neg h0;have hq:qT x y=x.tdiv y:=if_neg h0;have hr:rT x y=x.tmod y:=if_neg h0;have nl:=a0d ai.len;by_cases jj:rT x y=0
 ·have hk:=FP (r:=rT x y) h0 (cJ jj);refine aK 1 J (aH J (fE i9) (mv 1 J (pf ag 1 J (bG (cE dY G J) J (aA (no f) J (aH J (pW) (aA (wk) J (mv 6 J (aA (wk) J (aG (aT J (bB ?_))))))))))));refine aL (aD (f9 [(4,i5 bm 0),(5,i5 bj 0),(7,i5 fj 0),(8,i5 ag 0),(9,no (eZ y))] (aP J) ?_));obtain⟨lp,hv,du⟩:=gH ie;have o:=ct.trans du;have ga:=((((ci.ext (ah.t (ab.t (L.t H)))).vN I).vN h).ext du);obtain⟨mj,ke,md,ge,_⟩:=gP (a5 M V W U) 0 aB ga (a5 M V W U) rfl;have X:=ge.ext o cz;have fo:=(((((bw.ext (ab.t (L.t H))).vN I).vN h).ext du).vN ge);obtain⟨mn,kd,ka,ik,_⟩:=gP (a5 Z E f F) 0 aB fo (a5 Z E f F) rfl;have ae:=ik.ext X cv;refine gJ cM lp [O M V W U,O Z E f F,no (eZ y),undef,undef,no (eZ y)] [lp,mj,mn] [3,4] [[],[],[],[0],[1],[2]] [(0,0),(1,0),(1,1),(2,0),(2,1),(2,2),(3,0),(4,1),(5,2)] J hv ?_ ?_
  ·exact aR J (cS J (bK aB ((ar.vN h).ext du) (a5 M V W U) J (bq J) J)) (aR J (cS J (bK aB (G.ext du) (a5 Z E f F) J (bq J) J)) (aR J (cS J (bK aB ((G.ext du).vN ge) (a5 Z E f F) J (bq J) J)) (aR J (cC J) (aR J (cC J) (aR J (cC J) (fV _ J J J J J J (fQ J J ke) (fV _ J J J J J J (fQ J J kd) (aR J (kA J) gI))))))))
  refine fU [(4,i5 bm 0),(5,i5 bj 0),(6,no (eZ y))] (aP J) (aL (bA (aZ [O M V W U,O Z E f F,no (eZ y)] J ⟨⟨_,rfl,bK aB (md.vN ik) (a5 M V W U) J (bq J) rfl⟩,⟨_,rfl,bK aB ka (a5 Z E f F) J (bq J) rfl⟩,rfl,xl⟩ ?_)));exact⟨_,rfl,⟨_,_,_,rfl,⟨_,_,_,_,rfl,(((((((dm.ext (L.t H)).updT aa I).updT Y h).ext du).updT ga ge).updT fo ik)).cast (by simp only [qF,rF,if_neg h0,←hr,hq,if_pos hk])⟩,⟨_,_,_,_,rfl,(((((((ai.ext (L.t H)).updT aa I).updT Y h).ext du).updT ga ge).updT fo ik)).cast (by simp only [qF,rF,if_neg h0,←hr,hq,if_pos hk])⟩,rfl,fe⟩,ae⟩
 by_cases ib:rT x y<0
 ·by_cases fq:y<0
  ·obtain rfl:Z=true:=by rw [ai.sgn];exact decide_eq_true ib
   obtain rfl:sb=true:=by rw [hy.sgn h0];exact decide_eq_true fq
   have hk:=FP (r:=rT x y) h0 (cN i9);refine aK 1 J (aH J (fE i9) (mv 1 J (pf ag 1 J (bG (cE dY G J) J (aA (no f) J (aH J (qQ) (aA (we) J (mv 1 J (pf ag 0 J (bG (cE eW G J) J (pf g6 0 J (bG (cE eW (((dr.ext (df.t (ah.t (ab.t (L.t H))))).vN I).vN h) J) J ?_))))))))))));refine aA (wk) J (aA (wk) J (aG (aT J (bB (aL (aD (f9 [(4,i5 bm 0),(5,i5 bj 0),(7,i5 fj 0),(8,i5 ag 0),(9,no (eZ y))] (aP J) ?_)))))));obtain⟨kb,hv,dg⟩:=gH ie;have o:=ct.trans dg;have gk:=((((ci.ext (ah.t (ab.t (L.t H)))).vN I).vN h).ext dg);obtain⟨mi,jv,lj,fx,_⟩:=gP (a5 M V W U) 0 aB gk (a5 M V W U) rfl;have X:=fx.ext o cz;have go:=(((((bw.ext (ab.t (L.t H))).vN I).vN h).ext dg).vN fx);obtain⟨mh,kr,kq,ig,_⟩:=gP (a5 true E f F) 0 aB go (a5 true E f F) rfl;have ae:=ig.ext X cv;refine gJ cM kb [O M V W U,O true E f F,no (eZ y),undef,undef,no (eZ y)] [kb,mi,mh] [3,4] [[],[],[],[0],[1],[2]] [(0,0),(1,0),(1,1),(2,0),(2,1),(2,2),(3,0),(4,1),(5,2)] J hv ?_ ?_
   ·exact aR J (cS J (bK aB ((ar.vN h).ext dg) (a5 M V W U) J (bq J) J)) (aR J (cS J (bK aB (G.ext dg) (a5 true E f F) J (bq J) J)) (aR J (cS J (bK aB ((G.ext dg).vN fx) (a5 true E f F) J (bq J) J)) (aR J (cC J) (aR J (cC J) (aR J (cC J) (fV _ J J J J J J (fQ J J jv) (fV _ J J J J J J (fQ J J kr) (aR J (kA J) gI))))))))
   refine fU [(4,i5 bm 0),(5,i5 bj 0),(6,no (eZ y))] (aP J) (aL (bA (aZ [O M V W U,O true E f F,no (eZ y)] J ⟨⟨_,rfl,bK aB (lj.vN ig) (a5 M V W U) J (bq J) rfl⟩,⟨_,rfl,bK aB kq (a5 true E f F) J (bq J) rfl⟩,rfl,xl⟩ ?_)));exact⟨_,rfl,⟨_,_,_,rfl,⟨_,_,_,_,rfl,(((((((dm.ext (L.t H)).updT aa I).updT Y h).ext dg).updT gk fx).updT go ig)).cast (by simp only [qF,rF,if_neg h0,←hr,hq,if_pos hk])⟩,⟨_,_,_,_,rfl,(((((((ai.ext (L.t H)).updT aa I).updT Y h).ext dg).updT gk fx).updT go ig)).cast (by simp only [qF,rF,if_neg h0,←hr,hq,if_pos hk])⟩,rfl,fe⟩,ae⟩
  obtain rfl:Z=true:=by rw [ai.sgn];exact decide_eq_true ib
  obtain rfl:sb=false:=by rw [hy.sgn h0];exact decide_eq_false fq
  have hk:=OW (r:=rT x y) h0 jj i9;refine aK 1 J (aH J (fE i9) (mv 1 J (pf ag 1 J (bG (cE dY G J) J (aA (no f) J (aH J (qQ) (aA (we) J (mv 1 J (pf ag 0 J (bG (cE eW G J) J (pf g6 0 J (bG (cE eW (((dr.ext (df.t (ah.t (ab.t (L.t H))))).vN I).vN h) J) J ?_))))))))))));refine aA (we) J (aA (we) J (aG (bC J (aD ?_))));have nu:ln ((qT x y)-1)≤4194305:=a8 (jY fk (show ln (1)≤1 by decide+kernel)) yd;refine dW cM 3 [] [Is (O M V W U),ZR w.heap.size (1),ZR w.heap.size ((qT x y)-1)] [[],[],[0,1]] rfl (cG J ?_ (cG J ?_ (cG J ?_ dN))) ?_
  ·exact fun _ kn=>aC (lo aB ((ar.vN h).ext kn) (a5 M V W U) J J J (aI J))
  ·intro _ ko;have o:=ct.trans ko;refine aC (bI [no 1] o (l7 o.size yd yd) J ?_);rintro _ _ ⟨_,_,_,_,rfl,kx⟩ kc X;exact bQ J kc ⟨_,_,_,_,rfl,kx⟩
  ·intro _ ix;have o:=ct.trans ix;refine aO J (aW J ?_);rintro _ _ ⟨_,_,_,_,rfl,fa⟩ _ ju;have fa:=fa.ext ju;refine aC ?_;have nk:ln ((qT x y)-1)≤4194305:=a8 (jY fk (show ln (1)≤1 by decide+kernel)) yd;refine aX o (vT o.size ((((dm.ext (L.t H)).updT aa I).updT Y h).ext ix).zi (dm.le (aJ fk J)) fa.zi (fa.le (a8 (show ln (1)≤1 by decide+kernel) yd))) J ?_;rintro _ _ ⟨_,_,_,_,rfl,ku⟩ ks X;exact bQ J ks ⟨_,_,_,_,rfl,ku⟩
  intro _ aj;have o:=ct.trans aj;refine aO J (aW J ?_);rintro _ _ ⟨_,_,_,_,rfl,iq⟩ _ kv;have iq:=iq.ext kv;refine aW J ?_;rintro _ _ ⟨bu,cp,cj,bp,rfl,fh⟩ _ ll;have fh:=fh.ext ll;refine aC ?_;have da:=((ar.vN h).ext aj);refine so aB da (a5 bu cp cj bp) o fz J J J J fun _ jq bi X=>(cF (dM (aL (bH (lo aB ((G.ext aj).vN bi) (a5 true E f F) J J J (lo aB (((((dr.ext (df.t (ah.t (ab.t (L.t H))))).vN I).vN h).ext aj).vN bi) [F0,up Ab nb cb] J J J ?_))))));have ja:=(fh.updT da bi).old;have ni:ln ((rT x y)+y)≤4194305:=a8 (eK ij Ly) yd;refine bI [O true E f F,.agg #[F0,up Ab nb cb]] X (tV (aU _) (((((ai.ext (L.t H)).updT aa I).updT Y h).ext aj).updT da bi).zi (ai.le (aJ ij J)) (hy.ext X) (aJ lb J)) J ?_;rintro _ _ ⟨bd,bh,bg,az,rfl,ez⟩ dy ae;have ji:=fun g h1 h2=>Nat.lt_irrefl _ (dA (ja g h1) (ez.new g h2));replace ez:=ez.mono X.size;have el:=(((G.ext aj).vN bi).ext dy);refine so aB el (a5 bd bh bg az) ae ft J J J J fun kg fv dl fm=>(aG (aD (f9 [(4,i5 bm 0),(5,i5 bj 0),(7,i5 fj 0),(8,i5 ag 0),(9,no (eZ y))] (aP J) ?_)));obtain⟨iw,hv,au⟩:=gH kg;have fp:=fm.trans au;have em:=((((((((ci.ext (ah.t (ab.t (L.t H)))).vN I).vN h).ext aj).vN bi).ext dy).vN dl).ext au);obtain⟨lm,jd,jh,dt,_⟩:=gP (a5 bu cp cj bp) 0 aB em (a5 bu cp cj bp) rfl;have gj:=dt.ext fp cz;have ej:=(((((((((bw.ext (ab.t (L.t H))).vN I).vN h).ext aj).vN bi).ext dy).vN dl).ext au).vN dt);obtain⟨kf,jm,jo,fb,_⟩:=gP (a5 bd bh bg az) 0 aB ej (a5 bd bh bg az) rfl;have gb:=fb.ext gj cv;refine gJ cM iw [O bu cp cj bp,O bd bh bg az,no (eZ y),undef,undef,no (eZ y)] [iw,lm,kf] [3,4] [[],[],[],[0],[1],[2]] [(0,0),(1,0),(1,1),(2,0),(2,1),(2,2),(3,0),(4,1),(5,2)] J hv ?_ ?_
  ·exact aR J (cS J (bK aB (((jq.ext dy).vN dl).ext au) (a5 bu cp cj bp) J (bq J) J)) (aR J (cS J (bK aB (fv.ext au) (a5 bd bh bg az) J (bq J) J)) (aR J (cS J (bK aB ((fv.ext au).vN dt) (a5 bd bh bg az) J (bq J) J)) (aR J (cC J) (aR J (cC J) (aR J (cC J) (fV _ J J J J J J (fQ J J jd) (fV _ J J J J J J (fQ J J jm) (aR J (kA J) gI))))))))
  refine fU [(4,i5 bm 0),(5,i5 bj 0),(6,no (eZ y))] (aP J) (aL (bA (aZ [O bu cp cj bp,O bd bh bg az,no (eZ y)] J ⟨⟨_,rfl,bK aB (jh.vN fb) (a5 bu cp cj bp) J (bq J) rfl⟩,⟨_,rfl,bK aB jo (a5 bd bh bg az) J (bq J) rfl⟩,rfl,xl⟩ ?_)));exact⟨_,rfl,⟨_,_,_,rfl,⟨_,_,_,_,rfl,(((((((fh.updT da bi).ext dy).updT el dl).ext au).updT em dt).updT ej fb)).cast (by simp only [qF,rF,if_neg h0,←hr,hq,if_neg hk])⟩,⟨_,_,_,_,rfl,(((((ez.updT el dl).ext au).updT em dt).updT ej fb)).cast (by simp only [qF,rF,if_neg h0,←hr,hq,if_neg hk])⟩,rfl,ji⟩,gb⟩
 by_cases fq:y<0
 ·obtain rfl:Z=false:=by rw [ai.sgn];exact decide_eq_false ib
  obtain rfl:sb=true:=by rw [hy.sgn h0];exact decide_eq_true fq
  have hk:=OW (r:=rT x y) h0 jj i9;refine aK 1 J (aH J (fE i9) (mv 1 J (pf ag 1 J (bG (cE dY G J) J (aA (no f) J (aH J (qQ) (aA (we) J (mv 1 J (pf ag 0 J (bG (cE eW G J) J (pf g6 0 J (bG (cE eW (((dr.ext (df.t (ah.t (ab.t (L.t H))))).vN I).vN h) J) J ?_))))))))))));refine aA (we) J (aA (we) J (aG (bC J (aD ?_))));have nh:ln ((qT x y)-1)≤4194305:=a8 (jY fk (show ln (1)≤1 by decide+kernel)) yd;refine dW cM 3 [] [Is (O M V W U),ZR w.heap.size (1),ZR w.heap.size ((qT x y)-1)] [[],[],[0,1]] rfl (cG J ?_ (cG J ?_ (cG J ?_ dN))) ?_
  ·exact fun _ lh=>aC (lo aB ((ar.vN h).ext lh) (a5 M V W U) J J J (aI J))
  ·intro _ mc;have o:=ct.trans mc;refine aC (bI [no 1] o (l7 o.size yd yd) J ?_);rintro _ _ ⟨_,_,_,_,rfl,jy⟩ jz X;exact bQ J jz ⟨_,_,_,_,rfl,jy⟩
  ·intro _ il;have o:=ct.trans il;refine aO J (aW J ?_);rintro _ _ ⟨_,_,_,_,rfl,fd⟩ _ ki;have fd:=fd.ext ki;refine aC ?_;have mz:ln ((qT x y)-1)≤4194305:=a8 (jY fk (show ln (1)≤1 by decide+kernel)) yd;refine aX o (vT o.size ((((dm.ext (L.t H)).updT aa I).updT Y h).ext il).zi (dm.le (aJ fk J)) fd.zi (fd.le (a8 (show ln (1)≤1 by decide+kernel) yd))) J ?_;rintro _ _ ⟨_,_,_,_,rfl,lu⟩ kt X;exact bQ J kt ⟨_,_,_,_,rfl,lu⟩
  intro _ av;have o:=ct.trans av;refine aO J (aW J ?_);rintro _ _ ⟨_,_,_,_,rfl,io⟩ _ kk;have io:=io.ext kk;refine aW J ?_;rintro _ _ ⟨br,cm,bo,ch,rfl,fc⟩ _ ma;have fc:=fc.ext ma;refine aC ?_;have de:=((ar.vN h).ext av);refine so aB de (a5 br cm bo ch) o fz J J J J fun _ jc am X=>(cF (dM (aL (bH (lo aB ((G.ext av).vN am) [F0,up E f F] J J J (lo aB (((((dr.ext (df.t (ah.t (ab.t (L.t H))))).vN I).vN h).ext av).vN am) (a5 true Ab nb cb) J J J ?_))))));have ja:=(fc.updT de am).old;have nj:ln ((rT x y)+y)≤4194305:=a8 (eK ij Ly) yd;refine bI [.agg #[F0,up E f F],O true Ab nb cb] X (tV (aU _) (((((ai.ext (L.t H)).updT aa I).updT Y h).ext av).updT de am).zi (ai.le (aJ ij J)) (hy.ext X) (aJ lb J)) J ?_;rintro _ _ ⟨ao,aw,bf,ak,rfl,ew⟩ dh ae;have jb:=fun g h1 h2=>Nat.lt_irrefl _ (dA (ja g h1) (ew.new g h2));replace ew:=ew.mono X.size;have eg:=(((G.ext av).vN am).ext dh);refine so aB eg (a5 ao aw bf ak) ae ft J J J J fun kz gf dz fm=>(aG (aD (f9 [(4,i5 bm 0),(5,i5 bj 0),(7,i5 fj 0),(8,i5 ag 0),(9,no (eZ y))] (aP J) ?_)));obtain⟨ir,hv,aq⟩:=gH kz;have fp:=fm.trans aq;have eh:=((((((((ci.ext (ah.t (ab.t (L.t H)))).vN I).vN h).ext av).vN am).ext dh).vN dz).ext aq);obtain⟨kp,jl,jg,dx,_⟩:=gP (a5 br cm bo ch) 0 aB eh (a5 br cm bo ch) rfl;have gj:=dx.ext fp cz;have ef:=(((((((((bw.ext (ab.t (L.t H))).vN I).vN h).ext av).vN am).ext dh).vN dz).ext aq).vN dx);obtain⟨kj,jr,jf,fi,_⟩:=gP (a5 ao aw bf ak) 0 aB ef (a5 ao aw bf ak) rfl;have gb:=fi.ext gj cv;refine gJ cM ir [O br cm bo ch,O ao aw bf ak,no (eZ y),undef,undef,no (eZ y)] [ir,kp,kj] [3,4] [[],[],[],[0],[1],[2]] [(0,0),(1,0),(1,1),(2,0),(2,1),(2,2),(3,0),(4,1),(5,2)] J hv ?_ ?_
  ·exact aR J (cS J (bK aB (((jc.ext dh).vN dz).ext aq) (a5 br cm bo ch) J (bq J) J)) (aR J (cS J (bK aB (gf.ext aq) (a5 ao aw bf ak) J (bq J) J)) (aR J (cS J (bK aB ((gf.ext aq).vN dx) (a5 ao aw bf ak) J (bq J) J)) (aR J (cC J) (aR J (cC J) (aR J (cC J) (fV _ J J J J J J (fQ J J jl) (fV _ J J J J J J (fQ J J jr) (aR J (kA J) gI))))))))
  refine fU [(4,i5 bm 0),(5,i5 bj 0),(6,no (eZ y))] (aP J) (aL (bA (aZ [O br cm bo ch,O ao aw bf ak,no (eZ y)] J ⟨⟨_,rfl,bK aB (jg.vN fi) (a5 br cm bo ch) J (bq J) rfl⟩,⟨_,rfl,bK aB jf (a5 ao aw bf ak) J (bq J) rfl⟩,rfl,xl⟩ ?_)));exact⟨_,rfl,⟨_,_,_,rfl,⟨_,_,_,_,rfl,(((((((fc.updT de am).ext dh).updT eg dz).ext aq).updT eh dx).updT ef fi)).cast (by simp only [qF,rF,if_neg h0,←hr,hq,if_neg hk])⟩,⟨_,_,_,_,rfl,(((((ew.updT eg dz).ext aq).updT eh dx).updT ef fi)).cast (by simp only [qF,rF,if_neg h0,←hr,hq,if_neg hk])⟩,rfl,jb⟩,gb⟩
 obtain rfl:Z=false:=by rw [ai.sgn];exact decide_eq_false ib
 obtain rfl:sb=false:=by rw [hy.sgn h0];exact decide_eq_false fq
 have hk:=FP (r:=rT x y) h0 (cN i9);refine aK 1 J (aH J (fE i9) (mv 1 J (pf ag 1 J (bG (cE dY G J) J (aA (no f) J (aH J (qQ) (aA (we) J (mv 1 J (pf ag 0 J (bG (cE eW G J) J (pf g6 0 J (bG (cE eW (((dr.ext (df.t (ah.t (ab.t (L.t H))))).vN I).vN h) J) J ?_))))))))))));refine aA (wk) J (aA (wk) J (aG (aT J (bB (aL (aD (f9 [(4,i5 bm 0),(5,i5 bj 0),(7,i5 fj 0),(8,i5 ag 0),(9,no (eZ y))] (aP J) ?_)))))));obtain⟨iu,hv,ba⟩:=gH ie;have o:=ct.trans ba;have en:=((((ci.ext (ah.t (ab.t (L.t H)))).vN I).vN h).ext ba);obtain⟨jt,jp,iz,dw,_⟩:=gP (a5 M V W U) 0 aB en (a5 M V W U) rfl;have X:=dw.ext o cz;have ei:=(((((bw.ext (ab.t (L.t H))).vN I).vN h).ext ba).vN dw);obtain⟨jw,je,jk,fg,_⟩:=gP [F0,up E f F] 0 aB ei [F0,up E f F] rfl;have ae:=fg.ext X cv;refine gJ cM iu [O M V W U,.agg #[F0,up E f F],no (eZ y),undef,undef,no (eZ y)] [iu,jt,jw] [3,4] [[],[],[],[0],[1],[2]] [(0,0),(1,0),(1,1),(2,0),(2,1),(2,2),(3,0),(4,1),(5,2)] J hv ?_ ?_
 ·exact aR J (cS J (bK aB ((ar.vN h).ext ba) (a5 M V W U) J (bq J) J)) (aR J (cS J (bK aB (G.ext ba) [F0,up E f F] J (bq J) J)) (aR J (cS J (bK aB ((G.ext ba).vN dw) [F0,up E f F] J (bq J) J)) (aR J (cC J) (aR J (cC J) (aR J (cC J) (fV _ J J J J J J (fQ J J jp) (fV _ J J J J J J (fQ J J je) (aR J (kA J) gI))))))))
 refine fU [(4,i5 bm 0),(5,i5 bj 0),(6,no (eZ y))] (aP J) (aL (bA (aZ [O M V W U,.agg #[F0,up E f F],no (eZ y)] J ⟨⟨_,rfl,bK aB (iz.vN fg) (a5 M V W U) J (bq J) rfl⟩,⟨_,rfl,bK aB jk [F0,up E f F] J (bq J) rfl⟩,rfl,xl⟩ ?_)));exact⟨_,rfl,⟨_,_,_,rfl,⟨_,_,_,_,rfl,(((((((dm.ext (L.t H)).updT aa I).updT Y h).ext ba).updT en dw).updT ei fg)).cast (by simp only [qF,rF,if_neg h0,←hr,hq,if_pos hk])⟩,⟨_,_,_,_,rfl,(((((((ai.ext (L.t H)).updT aa I).updT Y h).ext ba).updT en dw).updT ei fg)).cast (by simp only [qF,rF,if_neg h0,←hr,hq,if_pos hk])⟩,rfl,fe⟩,ae⟩
theorem NQ (hb:b≤w.heap.size)(hx:Zi w s A n cap x)(la:n≤1048576)(hy:Zi w t B m cap' y)(lb:m≤1048576):aQ aM 75 #[O s A n cap,O t B m cap'] w (Gv w (T3 (ZR b (qF x y)) (ZR b (rF x y)) (Is (no (eZ y))))):=(NO hb hx (a8 la yd) hy (a8 lb yd)).mono (Gv.imp TA.t3)
theorem XV (h:0<y):qF x y=x/y∧rF x y=x%y∧eZ y=0:=by
 have h0:y≠0:=by omega
 have hs:bM y 0=1:=by unfold bM;rw [if_neg i9,if_neg i9]
 have e:=Int.tdiv_mul_add_tmod x y;have E:=nS (x:=x) h0;unfold qF rF eZ;rw [if_neg h0,if_neg h0,if_neg h0,hs,Int.mul_one];by_cases k:0≤x.tmod y
 ·have k2:0≤bM (x.tmod y) 0:=by unfold bM;split;(· omega);split <;> decide
  rw [if_pos k2,if_pos k2];obtain⟨f,o⟩:=(Int.ediv_emod_unique (b:=y) h).2 ⟨show x.tmod y+y*x.tdiv y=x by rw [Int.mul_comm];omega,k,by omega⟩;exact⟨f.symm,o.symm,rfl⟩
 have k2:¬0≤bM (x.tmod y) 0:=by unfold bM;rw [if_pos i9];decide
 rw [if_neg k2,if_neg k2];obtain⟨f,o⟩:=(Int.ediv_emod_unique (b:=y) h).2 ⟨show x.tmod y+y+y*(x.tdiv y-1)=x by rw [Int.mul_sub,Int.mul_one,Int.mul_comm y];omega,by omega,by omega⟩;exact⟨f.symm,o.symm,rfl⟩
theorem a1C (hb:b≤w.heap.size)(hx:Zi w s A n cap x)(hl:n≤4194304)(hy:Zi w t B m cap' y)(hl':m≤4194304)(h0:0<y):aQ aM 75 #[O s A n cap,O t B m cap'] w (Gv w (T3 (ZR b (x/y)) (ZR b (x%y)) (Is (no 0)))):=by
 obtain⟨o,f,E⟩:=XV (x:=x) h0;have h:=NO hb hx hl hy hl';rw [o,f,E] at h;exact h.mono (Gv.imp TA.t3)
theorem oX (h:iZ (O s none n c) g):False:=by
 obtain⟨p,f,_⟩:=tQ h;cases f
def FA (b:Nat)(p q:Int)(v:aF)(w:a6):Prop:=∃s A n c s' A' n' c',v= a9 s A n c s' A' n' c'∧Zr w b s A n c p∧Zr w b s' A' n' c' q∧∀g,iZ (O s A n c) g→iZ (O s' A' n' c') g→False
theorem FA.imp (hb:b≤b')(v:aF)(w:a6)(h:FA b' p q v w):FA b p q v w:=by
 obtain⟨s,A,n,c,s',A',n',c',rfl,h1,h2,f⟩:=h;exact⟨s,A,n,c,s',A',n',c',rfl,h1.mono hb,h2.mono hb,f⟩
theorem FA.fr (v:aF)(w:a6)(h:FA b p q v w):FR b p q v w:=by
 obtain⟨s,A,n,c,s',A',n',c',rfl,h1,h2,_⟩:=h;exact⟨s,A,n,c,s',A',n',c',rfl,h1,h2⟩
theorem pX {nb:Nat}(hb:b≤w.heap.size)(hx:Zi w sa Aa na ca x)(la:na≤1073741824)(hy:Zi w sb Ab nb cb y)(lb:nb≤1073741824):aQ aM 16 #[O sa Aa na ca,O sb Ab nb cb] w (Gv w (T2 (FA b (bW x y) (cD x y)) (Is (no (bR y))))):=by
 refine Calls.mono (R:=Gv w (T2 (FA w.heap.size (bW x y) (cD x y)) (Is (no (bR y))))) ?_ (Gv.imp (T2.imp (FA.imp hb) Is.imp));have Lx:=bP hx la;have Ly:=bP hy lb;refine bU Tryz.func16 41 J (sr (bx (a5 sa Aa na ca) bN J J J fun _ _ eg _ _ jg=>(fY (a5 sb Ab nb cb) jg eg.lt J J J fun _ _ cm _ _ e8 jf=>(bV [F0,S0,F0,S0] jf cm.lt J fun _ _ ar dy _ aj ir=>(aE 1 J (sr (lo aB (cm.ext aj) (a5 sb Ab nb cb) J J J (aX ir (jH (hy.ext ir) (aJ lb J)) J ?_))))))));rintro _ _ rfl o ak;refine aE 1 J (aD (aD ?_));by_cases h0:y=0
 ·refine aK 1 J (aH J (DV h0) (aG (bC J (sr (aA (.agg #[F0,S0,F0,S0]) J ?_)))));refine so bJ (ar.ext o) [F0,S0,F0,S0] ak dy J J J J fun il ja _ ef=>(aE 1 J (bA (cI (aZ [.agg #[F0,S0,F0,S0],no 4] J ⟨⟨_,rfl,bK bJ ja [F0,S0,F0,S0] J (bq J) rfl⟩,rfl,xl⟩ ?_))));exact⟨_,rfl,⟨_,_,rfl,⟨_,_,_,_,_,_,_,_,rfl,((Zr.zero (w:=il) (base:=w.heap.size))).cast (by simp only [bW,cD,if_pos h0]),((Zr.zero (w:=il) (base:=w.heap.size))).cast (by simp only [bW,cD,if_pos h0]),(fun _ h _=>oX h)⟩,(show (no 4:aF)=_ by simp only [bR,if_pos h0])⟩,ef⟩
 have fg:((Int.gcd x y:Nat):Int)≠0:=by have:=Int.gcd_pos_of_ne_zero_right x h0;omega
 by_cases hs:y<0
 ·refine aK 1 J (aH J (uY h0) (aG (aT J (bB (aL (sr (lo aB (eg.ext (e8.t (aj.t o))) (a5 sa Aa na ca) J J J (lo aB (cm.ext (aj.t o)) (a5 sb Ab nb cb) J J J ?_))))))));have iq:ln ((Int.gcd x y:Int))≤1073741824:=a8 (nC _ _) (Nat.max_le.2 ⟨Lx,Ly⟩);refine aX ak (BN ak.size (hx.ext ak) (aJ la J) (hy.ext ak) (aJ lb J)) J ?_;rintro _ _ ⟨gi,go,ij,gk,rfl,ey⟩ ew ef;refine bV [F0,S0] ef (ar.ext (o.t ew)).lt J fun _ _ dg io _ en gx=>(so aB dg (a5 gi go ij gk) gx io J J J J fun _ dt ei bg=>(aG (sr (lo aB ((eg.ext (e8.t (aj.t (o.t (ew.t en))))).vN ei) (a5 sa Aa na ca) J J J (lo aB dt (a5 gi go ij gk) J J J ?_)))));have ia:ln (x.tdiv (Int.gcd x y:Int))≤1073741824:=a8 (jG _ _) Lx;refine aX bg (BI bg.size (hx.ext bg) (aJ la J) ((ey.ext en).updT dg ei).zi (ey.le (aJ iq J)) fg (Nat.mod_eq_zero_of_dvd (Int.gcd_dvd_natAbs_left x y))) J ?_;rintro _ _ ⟨_,_,rfl,⟨fi,fd,fh,fb,rfl,ga⟩,rfl⟩ cz gg;refine mv 1 J (aA (O fi fd fh fb) J (aA (no 0) J (bV [F0,S0] gg (dt.ext cz).lt J fun _ _ ch fj _ ct ik=>(so aB ch (a5 fi fd fh fb) ik fj J J J J fun _ dl cp U=>(aE 1 J (sr (lo aB ((((cm.ext (aj.t (o.t (ew.t en)))).vN ei).ext (cz.t ct)).vN cp) (a5 sb Ab nb cb) J J J (lo aB ((dt.ext (cz.t ct)).vN cp) (a5 gi go ij gk) J J J ?_))))))));have fx:=((ga.ext ct).updT ch cp).old;have ib:ln (y.tdiv (Int.gcd x y:Int))≤1073741824:=a8 (jG _ _) Ly;refine aX U (BI (aU _) (hy.ext U) (aJ lb J) ((((ey.ext en).updT dg ei).ext (cz.t ct)).updT ch cp).zi (ey.le (aJ iq J)) fg (Nat.mod_eq_zero_of_dvd (Int.gcd_dvd_natAbs_right x y))) J ?_;rintro _ _ ⟨_,_,rfl,⟨fc,ez,fa,fe,rfl,df⟩,r63_1⟩ da em;have jj:=fun g h1 h2=>Nat.lt_irrefl _ (dA (fx g h1) (df.new g h2));replace df:=df.mono U.size;obtain rfl:=r63_1;refine mv 1 J (aA (O fc ez fa fe) J (aA (no 0) J (bV [F0,S0] em (dl.ext da).lt J fun _ _ el fk _ dh dr=>(so aB el (a5 fc ez fa fe) dr fk J J J J fun _ fo du ao=>(aE 1 J (aD (aV 1 J (aH J (tB hs) (aG (bC J ?_))))))))));have jq:ln (-(x.tdiv (Int.gcd x y:Int)))≤1073741824:=(by rw [gQ];exact ia);have jo:ln (-(y.tdiv (Int.gcd x y:Int)))≤1073741824:=(by rw [gQ];exact ib);refine vW cM 4 [] [1,3] [Is (O fi fd fh fb),ZR w.heap.size (-(x.tdiv (Int.gcd x y:Int))),Is (O fc ez fa fe),ZR w.heap.size (-(y.tdiv (Int.gcd x y:Int)))] [[],[0],[],[2]] [[],[0],[],[0,1,2],[0,1,2,3],[0,1,2,3,4]] J J ⟨fun _ _ h=>ZR.old h,fun _ _ h=>ZR.old h,xl⟩ (cG J ?_ (oU J J (y6 (fun _ _ h=>h) J ?_) (cG J ?_ (oU J J (y6 (fun _ _ h=>h) J ?_) dN)))) ?_
  ·exact fun _ jh=>aC (lo aB (((dl.ext (da.t dh)).vN du).ext jh) (a5 fi fd fh fb) J J J (aI J))
  ·intro _ iu;have f:=ao.trans iu;refine aO J (aC ?_);have jp:ln (-(x.tdiv (Int.gcd x y:Int)))≤1073741824:=(by rw [gQ];exact ia);refine aX f (tS (aU _) (((((ga.ext ct).updT ch cp).ext (da.t dh)).updT el du).ext iu).zi (ga.le (aJ ia J))) J ?_;rintro _ _ ⟨_,_,_,_,rfl,jc⟩ ji dz;exact bQ J ji ⟨⟨_,_,_,_,rfl,jc.mono f.size⟩,jc.new⟩
  ·exact fun _ je=>aC (lo aB (fo.ext je) (a5 fc ez fa fe) J J J (aI J))
  ·intro _ eP;have f:=ao.trans eP;refine aO J (aC ?_);have jl:ln (-(y.tdiv (Int.gcd x y:Int)))≤1073741824:=(by rw [gQ];exact ib);refine aX f (tS (aU _) (((df.ext dh).updT el du).ext eP).zi (df.le (aJ ib J))) J ?_;rintro _ _ ⟨_,_,_,_,rfl,fm⟩ iz dz;exact bQ J iz ⟨⟨_,_,_,_,rfl,fm.mono f.size⟩,fm.new⟩
  intro _ bp;have f:=ao.trans bp;refine aO J (aW J ?_);rintro _ _ ⟨Z,W,ag,ab,rfl,dw⟩ _ iy;have dw:=dw.ext iy;refine aO J (aW J ?_);rintro _ _ ⟨X,Y,ah,ai,rfl,eh⟩ _ iw;have eh:=eh.ext iw;refine aC ?_;intro de;have gf:=de 1 yd 3 yd yd _ _ J J _ _ J rfl;clear de;have bd:=(((dl.ext (da.t dh)).vN du).ext bp);refine so aB bd (a5 Z W ag ab) f fj J J J J fun _ fy br dz=>?_;have aw:=((fo.ext bp).vN br);refine so aB aw (a5 X Y ah ai) dz fk J J J J fun _ gj ci ix=>(cF (dM (aL (sr (lo aB (fy.vN ci) (a5 Z W ag ab) J J J (lo aB gj (a5 X Y ah ai) J J J (aA (a9 Z W ag ab X Y ah ai) J ?_)))))));have bf:=(((((((((ar.ext (o.t (ew.t en))).vN ei).ext (cz.t ct)).vN cp).ext (da.t dh)).vN du).ext bp).vN br).vN ci);refine so bJ bf [.bool Z,up W ag ab,.bool X,up Y ah ai] ix dy J J J J fun _ ig fv jb=>(aE 1 J (bA (aZ [a9 Z W ag ab X Y ah ai,I0] J ⟨⟨_,rfl,bK bJ ig [.bool Z,up W ag ab,.bool X,up Y ah ai] J (bq J) rfl⟩,rfl,xl⟩ ?_)));exact⟨_,rfl,⟨_,_,rfl,⟨_,_,_,_,_,_,_,_,rfl,((((dw.updT bd br).updT aw ci).updT bf fv)).cast (by simp only [bW,cD,jW,if_neg h0,if_pos hs,Int.tdiv_neg]),((((eh.updT bd br).updT aw ci).updT bf fv)).cast (by simp only [bW,cD,jW,if_neg h0,if_pos hs,Int.tdiv_neg]),gf⟩,(show (no 0:aF)=_ by simp only [bR,if_neg h0])⟩,jb⟩
 refine aK 1 J (aH J (uY h0) (aG (aT J (bB (aL (sr (lo aB (eg.ext (e8.t (aj.t o))) (a5 sa Aa na ca) J J J (lo aB (cm.ext (aj.t o)) (a5 sb Ab nb cb) J J J ?_))))))));have fp:ln ((Int.gcd x y:Int))≤1073741824:=a8 (nC _ _) (Nat.max_le.2 ⟨Lx,Ly⟩);refine aX ak (BN ak.size (hx.ext ak) (aJ la J) (hy.ext ak) (aJ lb J)) J ?_;rintro _ _ ⟨dx,ej,ee,dm,rfl,bm⟩ bu ef;refine bV [F0,S0] ef (ar.ext (o.t bu)).lt J fun _ _ az ie _ au gx=>(so aB az (a5 dx ej ee dm) gx ie J J J J fun _ bi av bg=>(aG (sr (lo aB ((eg.ext (e8.t (aj.t (o.t (bu.t au))))).vN av) (a5 sa Aa na ca) J J J (lo aB bi (a5 dx ej ee dm) J J J ?_)))));have jk:ln (x.tdiv (Int.gcd x y:Int))≤1073741824:=a8 (jG _ _) Lx;refine aX bg (BI bg.size (hx.ext bg) (aJ la J) ((bm.ext au).updT az av).zi (bm.le (aJ fp J)) fg (Nat.mod_eq_zero_of_dvd (Int.gcd_dvd_natAbs_left x y))) J ?_;rintro _ _ ⟨_,_,rfl,⟨H,L,G,M,rfl,fq⟩,rfl⟩ aq gg;refine mv 1 J (aA (O H L G M) J (aA (no 0) J (bV [F0,S0] gg (bi.ext aq).lt J fun _ _ am fz _ ae ik=>(so aB am (a5 H L G M) ik fz J J J J fun _ cv aa U=>(aE 1 J (sr (lo aB ((((cm.ext (aj.t (o.t (bu.t au)))).vN av).ext (aq.t ae)).vN aa) (a5 sb Ab nb cb) J J J (lo aB ((bi.ext (aq.t ae)).vN aa) (a5 dx ej ee dm) J J J ?_))))))));have fx:=((fq.ext ae).updT am aa).old;have jm:ln (y.tdiv (Int.gcd x y:Int))≤1073741824:=a8 (jG _ _) Ly;refine aX U (BI (aU _) (hy.ext U) (aJ lb J) ((((bm.ext au).updT az av).ext (aq.t ae)).updT am aa).zi (bm.le (aJ fp J)) fg (Nat.mod_eq_zero_of_dvd (Int.gcd_dvd_natAbs_right x y))) J ?_;rintro _ _ ⟨_,_,rfl,⟨F,E,I,V,rfl,bj⟩,r186_1⟩ cj em;have gy:=fun g h1 h2=>Nat.lt_irrefl _ (dA (fx g h1) (bj.new g h2));replace bj:=bj.mono U.size;obtain rfl:=r186_1;refine mv 1 J (aA (O F E I V) J (aA (no 0) J (bV [F0,S0] em (cv.ext cj).lt J fun _ _ ba gb _ bo dr=>(so aB ba (a5 F E I V) dr gb J J J J fun _ fw bw ao=>(aE 1 J (aD (aV 1 J (aH J (tC) (aG (aT J (bB ?_)))))))))));refine aL (sr (lo aB ((cv.ext (cj.t bo)).vN bw) (a5 H L G M) J J J (lo aB fw (a5 F E I V) J J J (aA (a9 H L G M F E I V) J ?_))));have bh:=((((((ar.ext (o.t (bu.t au))).vN av).ext (aq.t ae)).vN aa).ext (cj.t bo)).vN bw);refine so bJ bh [.bool H,up L G M,.bool F,up E I V] ao dy J J J J fun _ ge ft f=>(aE 1 J (bA (aZ [a9 H L G M F E I V,I0] J ⟨⟨_,rfl,bK bJ ge [.bool H,up L G M,.bool F,up E I V] J (bq J) rfl⟩,rfl,xl⟩ ?_)));exact⟨_,rfl,⟨_,_,rfl,⟨_,_,_,_,_,_,_,_,rfl,((((((fq.ext ae).updT am aa).ext (cj.t bo)).updT ba bw).updT bh ft)).cast (by simp only [bW,cD,jW,if_neg h0,if_neg hs]),((((bj.ext bo).updT ba bw).updT bh ft)).cast (by simp only [bW,cD,jW,if_neg h0,if_neg hs]),gy⟩,(show (no 0:aF)=_ by simp only [bR,if_neg h0])⟩,f⟩
theorem OY {nb:Nat}{nd:Nat}(hx:Zi w sa Aa na ca x)(la:na≤268435456)(hy:Zi w sb Ab nb cb y)(lb:nb≤268435456)(hu:Zi w sd Ad nd cd u)(ld:nd≤268435456)(hv:Zi w se Ae ne ce v)(le:ne≤268435456)(hy0:y≠0)(hv0:v≠0):aQ aM 72 #[a9 sa Aa na ca sb Ab nb cb,a9 sd Ad nd cd se Ae ne ce] w (Gv w (Is (we))):=by
 have Lx:=bP hx la;have Ly:=bP hy lb;have Lu:=bP hu ld;have Lv:=bP hv le;refine bU Tryz.func72 15 J (sr (bx [.bool sa,up Aa na ca,.bool sb,up Ab nb cb] bN J J J fun L _ f _ _ G=>(fY [.bool sd,up Ad nd cd,.bool se,up Ae ne ce] G f.lt J J J fun M _ H _ _ I h=>(aE 1 J (sr (pf L 2 J (lo aB (f.ext I) (a5 sb Ab nb cb) J J J (aX h (jH (hy.ext h) (aJ lb J)) J ?_))))))));rintro _ _ rfl E o;refine aH J (qI hy0) (mv 1 J (pf M 2 J (lo aB (H.ext E) (a5 se Ae ne ce) J J J (aX o (jH (hv.ext o) (aJ le J)) J ?_))));rintro _ _ rfl _ F;refine aH J (qI hv0) (aA (we) J (aE 1 J (bA (aZ [we] J ⟨rfl,xl⟩ ?_))));exact⟨_,rfl,rfl,F⟩
theorem FQ {nb:Nat}{nd:Nat}(hx:Zi w sa Aa na ca x)(la:na≤268435456)(hy:Zi w sb Ab nb cb y)(lb:nb≤268435456)(hu:Zi w sd Ad nd cd u)(ld:nd≤268435456)(hv:Zi w se Ae ne ce v)(le:ne≤268435456)(h0:y=0∨v=0):aQ aM 72 #[a9 sa Aa na ca sb Ab nb cb,a9 sd Ad nd cd se Ae ne ce] w (Gv w (Is (wk))):=by
 have Lx:=bP hx la;have Ly:=bP hy lb;have Lu:=bP hu ld;have Lv:=bP hv le;refine bU Tryz.func72 15 J (sr (bx [.bool sa,up Aa na ca,.bool sb,up Ab nb cb] bN J J J fun M _ o _ _ G=>(fY [.bool sd,up Ad nd cd,.bool se,up Ae ne ce] G o.lt J J J fun U _ H _ _ L f=>(aE 1 J (aD ?_)))));by_cases E:y=0
 ·refine bH (pf M 2 J (lo aB (o.ext L) (a5 sb Ab nb cb) J J J (aX f (jH (hy.ext f) (aJ lb J)) J ?_)));rintro _ _ rfl _ h;refine aH J (rJ E) (mv 5 J (aA (wk) J (aE 1 J (bA (aZ [F0] J ⟨rfl,xl⟩ ?_)))));exact⟨_,rfl,rfl,h⟩
 refine bH (pf M 2 J (lo aB (o.ext L) (a5 sb Ab nb cb) J J J (aX f (jH (hy.ext f) (aJ lb J)) J ?_)));rintro _ _ rfl I h;refine aH J (qI E) (mv 1 J (pf U 2 J (lo aB (H.ext I) (a5 se Ae ne ce) J J J (aX h (jH (hv.ext h) (aJ le J)) J ?_))));rintro _ _ rfl _ F;refine aH J (rJ i9) (aA (wk) J (aE 1 J (bA (aZ [F0] J ⟨rfl,xl⟩ ?_))));exact⟨_,rfl,rfl,F⟩
theorem P3 {nb:Nat}{nd:Nat}(hb:b≤w.heap.size)(hx:Zi w sa Aa na ca x)(la:na≤268435456)(hy:Zi w sb Ab nb cb y)(lb:nb≤268435456)(hu:Zi w sd Ad nd cd u)(ld:nd≤268435456)(hv:Zi w se Ae ne ce v)(le:ne≤268435456):aQ aM 33 #[a9 sa Aa na ca sb Ab nb cb,a9 sd Ad nd cd se Ae ne ce] w (Gv w (T2 (FA b (bW (x*v+u*y) (y*v)) (cD (x*v+u*y) (y*v))) (Is (no (bR (y*v)))))):=by
 refine Calls.mono (R:=Gv w (T2 (FA w.heap.size (bW (x*v+u*y) (y*v)) (cD (x*v+u*y) (y*v))) (Is (no (bR (y*v)))))) ?_ (Gv.imp (T2.imp (FA.imp hb) Is.imp));have Lx:=bP hx la;have Ly:=bP hy lb;have Lu:=bP hu ld;have Lv:=bP hv le;refine bU Tryz.func33 29 J (sr (bx [.bool sa,up Aa na ca,.bool sb,up Ab nb cb] bN J J J fun g1 _ V _ _ fe=>(fY [.bool sd,up Ad nd cd,.bool se,up Ae ne ce] fe V.lt J J J fun g6 _ U _ _ e8 fb=>(bV [F0,S0,F0,S0] fb U.lt J fun _ _ bh bg _ o E=>(aE 1 J (aD (aD ?_)))))));by_cases h0:y=0∨v=0
 ·have hz:y*v=0:=Int.mul_eq_zero.2 h0;refine bH (lo bJ (V.ext (e8.t o)) [.bool sa,up Aa na ca,.bool sb,up Ab nb cb] J J J (lo bJ (U.ext o) [.bool sd,up Ad nd cd,.bool se,up Ae ne ce] J J J (aX E (FQ (hx.ext E) (aJ la J) (hy.ext E) (aJ lb J) (hu.ext E) (aJ ld J) (hv.ext E) (aJ le J) h0) J ?_)));rintro _ _ rfl fj G;refine aA (we) J (aG (bC J (sr (aA (.agg #[F0,S0,F0,S0]) J ?_))));refine so bJ (bh.ext fj) [F0,S0,F0,S0] G bg J J J J fun ct dz _ f=>(aE 1 J (bA (cI (aZ [.agg #[F0,S0,F0,S0],no 4] J ⟨⟨_,rfl,bK bJ dz [F0,S0,F0,S0] J (bq J) rfl⟩,rfl,xl⟩ ?_))));exact⟨_,rfl,⟨_,_,rfl,⟨_,_,_,_,_,_,_,_,rfl,((Zr.zero (w:=ct) (base:=w.heap.size))).cast (by simp only [bW,cD,if_pos hz]),((Zr.zero (w:=ct) (base:=w.heap.size))).cast (by simp only [bW,cD,if_pos hz]),(fun _ h _=>oX h)⟩,(show (no 4:aF)=_ by simp only [bR,if_pos hz])⟩,f⟩
 have fd:y≠0:=fun e=>h0 (cJ e);have ez:v≠0:=fun e=>h0 (cN e);refine bH (lo bJ (V.ext (e8.t o)) [.bool sa,up Aa na ca,.bool sb,up Ab nb cb] J J J (lo bJ (U.ext o) [.bool sd,up Ad nd cd,.bool se,up Ae ne ce] J J J (aX E (OY (hx.ext E) (aJ la J) (hy.ext E) (aJ lb J) (hu.ext E) (aJ ld J) (hv.ext E) (aJ le J) fd ez) J ?_)));rintro _ _ rfl F G;refine aA (wk) J (aG (aT J (bB (aL (aD ?_)))));have br:ln (u*y)≤536870912:=a8 (dI Lu Ly) yd;have bp:ln (x*v+(u*y))≤536870913:=a8 (eK (dI Lx Lv) br) yd;have bw:ln (y*v)≤536870912:=a8 (dI Ly Lv) yd;have fw:ln (bW (x*v+(u*y)) (y*v))≤536870913:=gY bp;have fv:ln (cD (x*v+(u*y)) (y*v))≤536870912:=i6 bw;refine dW cM 18 [16,17] [Is (i5 g1 0),Is (O sa Aa na ca),Is (i5 g6 2),Is (O se Ae ne ce),Is (i5 g6 0),Is (O sd Ad nd cd),Is (i5 g1 2),Is (O sb Ab nb cb),ZR w.heap.size (u*y),ZR w.heap.size (x*v+(u*y)),Is (i5 g1 2),Is (O sb Ab nb cb),Is (i5 g6 2),Is (O se Ae ne ce),ZR w.heap.size (y*v),T2 (FA w.heap.size (bW (x*v+(u*y)) (y*v)) (cD (x*v+(u*y)) (y*v))) (Is (no (bR (y*v)))),FA w.heap.size (bW (x*v+(u*y)) (y*v)) (cD (x*v+(u*y)) (y*v)),Is (no (bR (y*v)))] [[],[0],[],[2],[],[4],[],[6],[5,7],[1,3,8],[],[10],[],[12],[11,13],[9,14],[15],[15]] rfl (bY J ?_ ?_ ?_ ?_ (bY J ?_ ?_ ?_ ?_ (bY J ?_ ?_ ?_ ?_ (bY J ?_ ?_ ?_ ?_ (gL J J (gM J ?_) (gL J J (gM J ?_) dN)))))) ?_
 ·exact fun _ _=>aC (pf g1 0 J (aI J))
 ·exact fun _ fm=>aO J (aC (lo aB (V.ext (e8.t (o.t (F.t fm)))) (a5 sa Aa na ca) J J J (aI J)))
 ·exact fun _ _=>aC (pf g6 2 J (aI J))
 ·exact fun _ fi=>aO J (aC (lo aB (U.ext (o.t (F.t fi))) (a5 se Ae ne ce) J J J (aI J)))
 ·exact fun _ _=>aC (pf g6 0 J (aI J))
 ·exact fun _ ey=>aO J (aC (lo aB (U.ext (o.t (F.t ey))) (a5 sd Ad nd cd) J J J (aI J)))
 ·exact fun _ _=>aC (pf g1 2 J (aI J))
 ·exact fun _ kD=>aO J (aC (lo aB (V.ext (e8.t (o.t (F.t kD)))) (a5 sb Ab nb cb) J J J (aI J)))
 ·intro _ fh;have f:=G.trans fh;refine aY J (aC ?_);have fx:ln (u*y)≤536870912:=a8 (dI Lu Ly) yd;refine aX f (tT f.size (hu.ext f) (aJ ld J) (hy.ext f) (aJ lb J)) J ?_;rintro _ _ ⟨_,_,_,_,rfl,fa⟩ fg aj;exact bQ J fg ⟨_,_,_,_,rfl,fa⟩
 ·intro _ fk;have f:=G.trans fk;refine aY J (aW J ?_);rintro _ _ ⟨_,_,_,_,rfl,M⟩ _ ee;have M:=M.ext ee;refine aC ?_;have ft:ln (x*v+(u*y))≤536870913:=a8 (eK (dI Lx Lv) br) yd;refine aX f (FI f.size (hx.ext f) (aJ la J) (hv.ext f) (aJ le J) M.zi (M.le (aJ br J))) J ?_;rintro _ _ ⟨_,_,_,_,rfl,cp⟩ eg aj;exact bQ J eg ⟨_,_,_,_,rfl,cp⟩
 ·exact fun _ _=>aC (pf g1 2 J (aI J))
 ·exact fun _ dh=>aO J (aC (lo aB (V.ext (e8.t (o.t (F.t dh)))) (a5 sb Ab nb cb) J J J (aI J)))
 ·exact fun _ _=>aC (pf g6 2 J (aI J))
 ·exact fun _ dy=>aO J (aC (lo aB (U.ext (o.t (F.t dy))) (a5 se Ae ne ce) J J J (aI J)))
 ·intro _ eh;have f:=G.trans eh;refine aY J (aC ?_);have fo:ln (y*v)≤536870912:=a8 (dI Ly Lv) yd;refine aX f (tT f.size (hy.ext f) (aJ lb J) (hv.ext f) (aJ le J)) J ?_;rintro _ _ ⟨_,_,_,_,rfl,de⟩ ej aj;exact bQ J ej ⟨_,_,_,_,rfl,de⟩
 ·intro _ ew;have f:=G.trans ew;refine aW J ?_;rintro _ _ ⟨_,_,_,_,rfl,I⟩ _ en;have I:=I.ext en;refine aW J ?_;rintro _ _ ⟨_,_,_,_,rfl,L⟩ _ el;have L:=L.ext el;refine aC ?_;have fp:ln (bW (x*v+(u*y)) (y*v))≤536870913:=gY bp;have fq:ln (cD (x*v+(u*y)) (y*v))≤536870912:=i6 bw;refine aX f (pX f.size I.zi (I.le (aJ bp J)) L.zi (L.le (aJ bw J))) J ?_;rintro _ _ ⟨_,_,rfl,⟨_,_,_,_,_,_,_,_,rfl,dl,dx,bu⟩,rfl⟩ dw aj;exact bQ J dw ⟨_,_,rfl,⟨_,_,_,_,_,_,_,_,rfl,dl,dx,bu⟩,rfl⟩
 ·intro _ _;refine aW J ?_;rintro _ _ ⟨_,_,rfl,⟨cv,em,du,ei,da,dg,ef,dr,rfl,W,aa,bo⟩,rfl⟩ _ au;have W:=W.ext au;have aa:=aa.ext au;refine aC ?_;exact⟨a9 cv em du ei da dg ef dr,rfl,rfl,fun _=>by kernel_rfl,⟨_,_,_,_,_,_,_,_,rfl,W,aa,bo⟩⟩
 ·intro _ _;refine aW J ?_;rintro _ _ ⟨_,_,rfl,⟨_,_,_,_,_,_,_,_,rfl,bd,ba,_⟩,rfl⟩ _ az;have bd:=bd.ext az;have ba:=ba.ext az;refine aC ?_;exact⟨no (bR (y*v)),rfl,rfl,fun _=>by kernel_rfl,rfl⟩
 intro _ av;have f:=G.trans av;refine d6 J (d6 J (aW J ?_));rintro _ _ ⟨_,_,_,_,rfl,bi⟩ _ dm;have bi:=bi.ext dm;refine aW J ?_;rintro _ _ ⟨_,_,_,_,rfl,aw⟩ _ cz;have aw:=aw.ext cz;refine d6 J (aW J ?_);rintro _ _ ⟨_,_,_,_,rfl,ar⟩ _ dt;have ar:=ar.ext dt;refine aW J ?_;rintro _ _ ⟨_,_,rfl,⟨_,_,_,_,_,_,_,_,rfl,aq,ao,_⟩,rfl⟩ _ bm;have aq:=aq.ext bm;have ao:=ao.ext bm;refine aW J ?_;rintro _ _ ⟨ak,Z,ah,ag,ai,ab,ae,am,rfl,Y,X,ch⟩ _ bj;have Y:=Y.ext bj;have X:=X.ext bj;refine aO J (aC ?_);have H:=(bh.ext (F.t av));refine so bJ H [.bool ak,up Z ah ag,.bool ai,up ab ae am] f bg J J J J fun _ ci bf aj=>(bS 1 J (dM (aL (bA (aZ [a9 ak Z ah ag ai ab ae am,no (bR (y*v))] J ⟨⟨_,rfl,bK bJ ci [.bool ak,up Z ah ag,.bool ai,up ab ae am] J (bq J) rfl⟩,rfl,xl⟩ ?_)))));exact⟨_,rfl,⟨_,_,rfl,⟨_,_,_,_,_,_,_,_,rfl,((Y.updT H bf)).cast (J),((X.updT H bf)).cast (J),ch⟩,rfl⟩,aj⟩
theorem OZ {nb:Nat}{nd:Nat}(hb:b≤w.heap.size)(hx:Zi w sa Aa na ca x)(la:na≤268435456)(hy:Zi w sb Ab nb cb y)(lb:nb≤268435456)(hu:Zi w sd Ad nd cd u)(ld:nd≤268435456)(hv:Zi w se Ae ne ce v)(le:ne≤268435456):aQ aM 34 #[a9 sa Aa na ca sb Ab nb cb,a9 sd Ad nd cd se Ae ne ce] w (Gv w (T2 (FA b (bW (x*v+ -u*y) (y*v)) (cD (x*v+ -u*y) (y*v))) (Is (no (bR (y*v)))))):=by
 refine Calls.mono (R:=Gv w (T2 (FA w.heap.size (bW (x*v+ -u*y) (y*v)) (cD (x*v+ -u*y) (y*v))) (Is (no (bR (y*v)))))) ?_ (Gv.imp (T2.imp (FA.imp hb) Is.imp));have Lx:=bP hx la;have Ly:=bP hy lb;have Lu:=bP hu ld;have Lv:=bP hv le;refine bU Tryz.func34 16 J (sr (bx [.bool sa,up Aa na ca,.bool sb,up Ab nb cb] bN J J J fun _ _ bo _ _ de=>(fY [.bool sd,up Ad nd cd,.bool se,up Ae ne ce] de bo.lt J J J fun g6 _ aw _ _ e8 da=>(bV [F0,S0,F0,S0] da aw.lt J fun _ _ bj bi _ aq av=>(aE 1 J (aD ?_))))));have bd:ln (-u)≤268435456:=(by rw [gQ];exact Lu);have ej:ln (bW (x*v+(-u)*y) (y*v))≤536870913:=gY (a8 (eK (dI Lx Lv) (dI bd Ly)) yd);have ei:ln (cD (x*v+(-u)*y) (y*v))≤536870912:=i6 (dI Ly Lv);refine dW cM 10 [8,9] [Is (a9 sa Aa na ca sb Ab nb cb),Is (i5 g6 0),Is (O sd Ad nd cd),ZR w.heap.size (-u),Is (i5 g6 2),Is (O se Ae ne ce),fun v' w'=>∃s0 A0 n0 c0,v'= a9 s0 A0 n0 c0 se Ae ne ce∧Zr w' w.heap.size s0 A0 n0 c0 (-u),T2 (FA w.heap.size (bW (x*v+(-u)*y) (y*v)) (cD (x*v+(-u)*y) (y*v))) (Is (no (bR (y*v)))),FA w.heap.size (bW (x*v+(-u)*y) (y*v)) (cD (x*v+(-u)*y) (y*v)),Is (no (bR (y*v)))] [[],[],[1],[2],[],[4],[3,5],[0,6],[7],[7]] rfl (bY J ?_ ?_ ?_ ?_ (bY J ?_ ?_ ?_ ?_ (gL J J (gM J ?_) (gL J J (gM J ?_) dN)))) ?_
 ·exact fun _ cz=>aC (lo bJ (bo.ext (e8.t (aq.t cz))) [.bool sa,up Aa na ca,.bool sb,up Ab nb cb] J J J (aI J))
 ·exact fun _ _=>aC (pf g6 0 J (aI J))
 ·exact fun _ dh=>aO J (aC (lo aB (aw.ext (aq.t dh)) (a5 sd Ad nd cd) J J J (aI J)))
 ·intro _ cp;have f:=av.trans cp;refine aO J (aC ?_);have el:ln (-u)≤268435456:=(by rw [gQ];exact Lu);refine aX f (tS f.size (hu.ext f) (aJ ld J)) J ?_;rintro _ _ ⟨_,_,_,_,rfl,bu⟩ mK ba;exact bQ J mK ⟨_,_,_,_,rfl,bu⟩
 ·exact fun _ _=>aC (pf g6 2 J (aI J))
 ·exact fun _ dl=>aO J (aC (lo aB (aw.ext (aq.t dl)) (a5 se Ae ne ce) J J J (aI J)))
 ·intro _ _;refine aW J ?_;rintro _ _ ⟨ch,dr,dt,dw,rfl,ao⟩ _ dz;have ao:=ao.ext dz;exact aO J (aC (aA (a9 ch dr dt dw se Ae ne ce) J (bQ J bN ⟨_,_,_,_,rfl,ao⟩)))
 ·intro _ dm;have f:=av.trans dm;refine aO J (aW J ?_);rintro _ _ ⟨_,_,_,_,rfl,W⟩ _ cv;have W:=W.ext cv;refine aC ?_;have eh:ln (bW (x*v+(-u)*y) (y*v))≤536870913:=gY (a8 (eK (dI Lx Lv) (dI bd Ly)) yd);have eg:ln (cD (x*v+(-u)*y) (y*v))≤536870912:=i6 (dI Ly Lv);refine aX f (P3 f.size (hx.ext f) (aJ la J) (hy.ext f) (aJ lb J) W.zi (W.le (aJ bd J)) (hv.ext f) (aJ le J)) J ?_;rintro _ _ ⟨_,_,rfl,⟨_,_,_,_,_,_,_,_,rfl,cm,ct,bh⟩,rfl⟩ du ba;exact bQ J du ⟨_,_,rfl,⟨_,_,_,_,_,_,_,_,rfl,cm,ct,bh⟩,rfl⟩
 ·intro _ _;refine aW J ?_;rintro _ _ ⟨_,_,rfl,⟨df,ee,dg,ci,cj,dx,dy,bw,rfl,ar,au,bg⟩,rfl⟩ _ bp;have ar:=ar.ext bp;have au:=au.ext bp;refine aC ?_;exact⟨a9 df ee dg ci cj dx dy bw,rfl,rfl,fun _=>by kernel_rfl,⟨_,_,_,_,_,_,_,_,rfl,ar,au,bg⟩⟩
 ·intro _ _;refine aW J ?_;rintro _ _ ⟨_,_,rfl,⟨_,_,_,_,_,_,_,_,rfl,aa,ae,_⟩,rfl⟩ _ X;have aa:=aa.ext X;have ae:=ae.ext X;refine aC ?_;exact⟨no (bR (y*v)),rfl,rfl,fun _=>by kernel_rfl,rfl⟩
 intro _ ai;have f:=av.trans ai;refine aY J (aO J (aW J ?_));rintro _ _ ⟨_,_,_,_,rfl,ag⟩ _ bm;have ag:=ag.ext bm;refine aY J (aW J ?_);rintro _ _ ⟨_,_,_,_,rfl,Z⟩ _ bf;have Z:=Z.ext bf;refine aW J ?_;rintro _ _ ⟨_,_,rfl,⟨_,_,_,_,_,_,_,_,rfl,aj,ah,_⟩,rfl⟩ _ ab;have aj:=aj.ext ab;have ah:=ah.ext ab;refine aW J ?_;rintro _ _ ⟨F,I,o,M,G,L,V,U,rfl,H,E,am⟩ _ ak;have H:=H.ext ak;have E:=E.ext ak;refine aO J (aC ?_);have h:=(bj.ext ai);refine so bJ h [.bool F,up I o M,.bool G,up L V U] f bi J J J J fun _ az Y ba=>(bS 1 J (dM (aL (bA (aZ [a9 F I o M G L V U,no (bR (y*v))] J ⟨⟨_,rfl,bK bJ az [.bool F,up I o M,.bool G,up L V U] J (bq J) rfl⟩,rfl,xl⟩ ?_)))));exact⟨_,rfl,⟨_,_,rfl,⟨_,_,_,_,_,_,_,_,rfl,((H.updT h Y)).cast (J),((E.updT h Y)).cast (J),am⟩,rfl⟩,ba⟩
theorem a1U {nb:Nat}{nd:Nat}(hb:b≤w.heap.size)(hx:Zi w sa Aa na ca x)(la:na≤268435456)(hy:Zi w sb Ab nb cb y)(lb:nb≤268435456)(hu:Zi w sd Ad nd cd u)(ld:nd≤268435456)(hv:Zi w se Ae ne ce v)(le:ne≤268435456):aQ aM 35 #[a9 sa Aa na ca sb Ab nb cb,a9 sd Ad nd cd se Ae ne ce] w (Gv w (T2 (FA b (bW (x*u) (y*v)) (cD (x*u) (y*v))) (Is (no (bR (y*v)))))):=by
 refine Calls.mono (R:=Gv w (T2 (FA w.heap.size (bW (x*u) (y*v)) (cD (x*u) (y*v))) (Is (no (bR (y*v)))))) ?_ (Gv.imp (T2.imp (FA.imp hb) Is.imp));have Lx:=bP hx la;have Ly:=bP hy lb;have Lu:=bP hu ld;have Lv:=bP hv le;refine bU Tryz.func35 19 J (sr (bx [.bool sa,up Aa na ca,.bool sb,up Ab nb cb] bN J J J fun g1 _ bi _ _ du=>(fY [.bool sd,up Ad nd cd,.bool se,up Ae ne ce] du bi.lt J J J fun g6 _ bd _ _ e8 dt=>(bV [F0,S0,F0,S0] dt bd.lt J fun _ _ da cp _ aa ab=>(aE 1 J (aD ?_))))));have bj:ln (x*u)≤536870912:=a8 (dI Lx Lu) yd;have bf:ln (y*v)≤536870912:=a8 (dI Ly Lv) yd;have em:ln (bW (x*u) (y*v))≤536870912:=gY bj;have ei:ln (cD (x*u) (y*v))≤536870912:=i6 bf;refine dW cM 13 [11,12] [Is (i5 g1 0),Is (O sa Aa na ca),Is (i5 g6 0),Is (O sd Ad nd cd),ZR w.heap.size (x*u),Is (i5 g1 2),Is (O sb Ab nb cb),Is (i5 g6 2),Is (O se Ae ne ce),ZR w.heap.size (y*v),T2 (FA w.heap.size (bW (x*u) (y*v)) (cD (x*u) (y*v))) (Is (no (bR (y*v)))),FA w.heap.size (bW (x*u) (y*v)) (cD (x*u) (y*v)),Is (no (bR (y*v)))] [[],[0],[],[2],[1,3],[],[5],[],[7],[6,8],[4,9],[10],[10]] rfl (bY J ?_ ?_ ?_ ?_ (bY J ?_ ?_ ?_ ?_ (cG J ?_ (cG J ?_ (cG J ?_ (gL J J (gM J ?_) (gL J J (gM J ?_) dN))))))) ?_
 ·exact fun _ _=>aC (pf g1 0 J (aI J))
 ·exact fun _ dr=>aO J (aC (lo aB (bi.ext (e8.t (aa.t dr))) (a5 sa Aa na ca) J J J (aI J)))
 ·exact fun _ _=>aC (pf g6 0 J (aI J))
 ·exact fun _ dw=>aO J (aC (lo aB (bd.ext (aa.t dw)) (a5 sd Ad nd cd) J J J (aI J)))
 ·intro _ mK;have f:=ab.trans mK;refine aY J (aC ?_);have el:ln (x*u)≤536870912:=a8 (dI Lx Lu) yd;refine aX f (tT f.size (hx.ext f) (aJ la J) (hu.ext f) (aJ ld J)) J ?_;rintro _ _ ⟨_,_,_,_,rfl,dx⟩ ee ae;exact bQ J ee ⟨_,_,_,_,rfl,dx⟩
 ·exact fun _ _=>aC (pf g1 2 J (aI J))
 ·exact fun _ dm=>aO J (aC (lo aB (bi.ext (e8.t (aa.t dm))) (a5 sb Ab nb cb) J J J (aI J)))
 ·exact fun _ _=>aC (pf g6 2 J (aI J))
 ·exact fun _ iA=>aO J (aC (lo aB (bd.ext (aa.t iA)) (a5 se Ae ne ce) J J J (aI J)))
 ·intro _ dz;have f:=ab.trans dz;refine aY J (aC ?_);have ej:ln (y*v)≤536870912:=a8 (dI Ly Lv) yd;refine aX f (tT f.size (hy.ext f) (aJ lb J) (hv.ext f) (aJ le J)) J ?_;rintro _ _ ⟨_,_,_,_,rfl,dl⟩ dy ae;exact bQ J dy ⟨_,_,_,_,rfl,dl⟩
 ·intro _ eP;have f:=ab.trans eP;refine aW J ?_;rintro _ _ ⟨_,_,_,_,rfl,o⟩ _ cj;have o:=o.ext cj;refine aW J ?_;rintro _ _ ⟨_,_,_,_,rfl,E⟩ _ cv;have E:=E.ext cv;refine aC ?_;have eh:ln (bW (x*u) (y*v))≤536870912:=gY bj;have eg:ln (cD (x*u) (y*v))≤536870912:=i6 bf;refine aX f (pX f.size o.zi (o.le (aJ bj J)) E.zi (E.le (aJ bf J))) J ?_;rintro _ _ ⟨_,_,rfl,⟨_,_,_,_,_,_,_,_,rfl,bu,bw,ba⟩,rfl⟩ br ae;exact bQ J br ⟨_,_,rfl,⟨_,_,_,_,_,_,_,_,rfl,bu,bw,ba⟩,rfl⟩
 ·intro _ _;refine aW J ?_;rintro _ _ ⟨_,_,rfl,⟨bp,df,cz,ch,bo,bm,de,ct,rfl,G,M,bg⟩,rfl⟩ _ ag;have G:=G.ext ag;have M:=M.ext ag;refine aC ?_;exact⟨a9 bp df cz ch bo bm de ct,rfl,rfl,fun _=>by kernel_rfl,⟨_,_,_,_,_,_,_,_,rfl,G,M,bg⟩⟩
 ·intro _ _;refine aW J ?_;rintro _ _ ⟨_,_,rfl,⟨_,_,_,_,_,_,_,_,rfl,ao,ah,_⟩,rfl⟩ _ aj;have ao:=ao.ext aj;have ah:=ah.ext aj;refine aC ?_;exact⟨no (bR (y*v)),rfl,rfl,fun _=>by kernel_rfl,rfl⟩
 intro _ aq;have f:=ab.trans aq;refine d6 J (aW J ?_);rintro _ _ ⟨_,_,_,_,rfl,ai⟩ _ cm;have ai:=ai.ext cm;refine d6 J (aW J ?_);rintro _ _ ⟨_,_,_,_,rfl,au⟩ _ ci;have au:=au.ext ci;refine aW J ?_;rintro _ _ ⟨_,_,rfl,⟨_,_,_,_,_,_,_,_,rfl,am,ar,_⟩,rfl⟩ _ ak;have am:=am.ext ak;have ar:=ar.ext ak;refine aW J ?_;rintro _ _ ⟨Z,Y,L,H,W,F,I,X,rfl,V,U,bh⟩ _ av;have V:=V.ext av;have U:=U.ext av;refine aO J (aC ?_);have h:=(da.ext aq);refine so bJ h [.bool Z,up Y L H,.bool W,up F I X] f cp J J J J fun _ az aw ae=>(bS 1 J (dM (aL (bA (aZ [a9 Z Y L H W F I X,no (bR (y*v))] J ⟨⟨_,rfl,bK bJ az [.bool Z,up Y L H,.bool W,up F I X] J (bq J) rfl⟩,rfl,xl⟩ ?_)))));exact⟨_,rfl,⟨_,_,rfl,⟨_,_,_,_,_,_,_,_,rfl,(V.updT h aw),(U.updT h aw),bh⟩,rfl⟩,ae⟩
theorem a1V {nb:Nat}{nd:Nat}(hb:b≤w.heap.size)(hx:Zi w sa Aa na ca x)(la:na≤268435456)(hy:Zi w sb Ab nb cb y)(lb:nb≤268435456)(hu:Zi w sd Ad nd cd u)(ld:nd≤268435456)(hv:Zi w se Ae ne ce v)(le:ne≤268435456):aQ aM 36 #[a9 sa Aa na ca sb Ab nb cb,a9 sd Ad nd cd se Ae ne ce] w (Gv w (T2 (FA b (l9 x y u v) (lB x y u v)) (Is (no (lA y u v))))):=by
 refine Calls.mono (R:=Gv w (T2 (FA w.heap.size (l9 x y u v) (lB x y u v)) (Is (no (lA y u v))))) ?_ (Gv.imp (T2.imp (FA.imp hb) Is.imp));have Lx:=bP hx la;have Ly:=bP hy lb;have Lu:=bP hu ld;have Lv:=bP hv le;refine bU Tryz.func36 24 J (sr (bx [.bool sa,up Aa na ca,.bool sb,up Ab nb cb] bN J J J fun g1 _ U _ _ fc=>(fY [.bool sd,up Ad nd cd,.bool se,up Ae ne ce] fc U.lt J J J fun g6 _ M _ _ e8 ez=>(bV [F0,S0,F0,S0] ez M.lt J fun _ _ aj ai _ F o=>(aE 1 J (aD (aD ?_)))))));by_cases E:v=0
 ·have h0:y=0∨v=0:=cN E;refine bH (lo bJ (U.ext (e8.t F)) [.bool sa,up Aa na ca,.bool sb,up Ab nb cb] J J J (lo bJ (M.ext F) [.bool sd,up Ad nd cd,.bool se,up Ae ne ce] J J J (aX o (FQ (hx.ext o) (aJ la J) (hy.ext o) (aJ lb J) (hu.ext o) (aJ ld J) (hv.ext o) (aJ le J) h0) J ?_)));rintro _ _ rfl fe G;refine aA (we) J (aG (bC J (sr (aA (.agg #[F0,S0,F0,S0]) J ?_))));refine so bJ (aj.ext fe) [F0,S0,F0,S0] G ai J J J J fun ct dx _ f=>(aE 1 J (bA (cI (aZ [.agg #[F0,S0,F0,S0],no 4] J ⟨⟨_,rfl,bK bJ dx [F0,S0,F0,S0] J (bq J) rfl⟩,rfl,xl⟩ ?_))));exact⟨_,rfl,⟨_,_,rfl,⟨_,_,_,_,_,_,_,_,rfl,((Zr.zero (w:=ct) (base:=w.heap.size))).cast (by simp only [l9,if_pos E]),((Zr.zero (w:=ct) (base:=w.heap.size))).cast (by simp only [lB,if_pos E]),(fun _ h _=>oX h)⟩,(show (no 4:aF)=_ by simp only [lA,if_pos E])⟩,f⟩
 by_cases ch:y=0
 ·have h0:y=0∨v=0:=cJ ch;have hz:y*u=0:=by rw [ch,Int.zero_mul]
  refine bH (lo bJ (U.ext (e8.t F)) [.bool sa,up Aa na ca,.bool sb,up Ab nb cb] J J J (lo bJ (M.ext F) [.bool sd,up Ad nd cd,.bool se,up Ae ne ce] J J J (aX o (FQ (hx.ext o) (aJ la J) (hy.ext o) (aJ lb J) (hu.ext o) (aJ ld J) (hv.ext o) (aJ le J) h0) J ?_)));rintro _ _ rfl ey G;refine aA (we) J (aG (bC J (sr (aA (.agg #[F0,S0,F0,S0]) J ?_))));refine so bJ (aj.ext ey) [F0,S0,F0,S0] G ai J J J J fun dl dm _ f=>(aE 1 J (bA (cI (aZ [.agg #[F0,S0,F0,S0],no 4] J ⟨⟨_,rfl,bK bJ dm [F0,S0,F0,S0] J (bq J) rfl⟩,rfl,xl⟩ ?_))));exact⟨_,rfl,⟨_,_,rfl,⟨_,_,_,_,_,_,_,_,rfl,((Zr.zero (w:=dl) (base:=w.heap.size))).cast (by simp only [l9,bW,if_neg E,if_pos hz]),((Zr.zero (w:=dl) (base:=w.heap.size))).cast (by simp only [lB,cD,if_neg E,if_pos hz]),(fun _ h _=>oX h)⟩,(show (no 4:aF)=_ by simp only [lA,bR,if_neg E,if_pos hz])⟩,f⟩
 have fb:y≠0:=ch;have en:v≠0:=E;refine bH (lo bJ (U.ext (e8.t F)) [.bool sa,up Aa na ca,.bool sb,up Ab nb cb] J J J (lo bJ (M.ext F) [.bool sd,up Ad nd cd,.bool se,up Ae ne ce] J J J (aX o (OY (hx.ext o) (aJ la J) (hy.ext o) (aJ lb J) (hu.ext o) (aJ ld J) (hv.ext o) (aJ le J) fb en) J ?_)));rintro _ _ rfl ak G;refine aA (wk) J (aG (aT J (bB (aL (aD ?_)))));have bp:ln (x*v)≤536870912:=a8 (dI Lx Lv) yd;have bw:ln (y*u)≤536870912:=a8 (dI Ly Lu) yd;have fo:ln (bW (x*v) (y*u))≤536870912:=gY bp;have fp:ln (cD (x*v) (y*u))≤536870912:=i6 bw;refine dW cM 13 [11,12] [Is (i5 g1 0),Is (O sa Aa na ca),Is (i5 g6 2),Is (O se Ae ne ce),ZR w.heap.size (x*v),Is (i5 g1 2),Is (O sb Ab nb cb),Is (i5 g6 0),Is (O sd Ad nd cd),ZR w.heap.size (y*u),T2 (FA w.heap.size (bW (x*v) (y*u)) (cD (x*v) (y*u))) (Is (no (bR (y*u)))),FA w.heap.size (bW (x*v) (y*u)) (cD (x*v) (y*u)),Is (no (bR (y*u)))] [[],[0],[],[2],[1,3],[],[5],[],[7],[6,8],[4,9],[10],[10]] rfl (bY J ?_ ?_ ?_ ?_ (bY J ?_ ?_ ?_ ?_ (cG J ?_ (cG J ?_ (cG J ?_ (gL J J (gM J ?_) (gL J J (gM J ?_) dN))))))) ?_
 ·exact fun _ _=>aC (pf g1 0 J (aI J))
 ·exact fun _ ej=>aO J (aC (lo aB (U.ext (e8.t (F.t (ak.t ej)))) (a5 sa Aa na ca) J J J (aI J)))
 ·exact fun _ _=>aC (pf g6 2 J (aI J))
 ·exact fun _ el=>aO J (aC (lo aB (M.ext (F.t (ak.t el))) (a5 se Ae ne ce) J J J (aI J)))
 ·intro _ em;have f:=G.trans em;refine aY J (aC ?_);have fm:ln (x*v)≤536870912:=a8 (dI Lx Lv) yd;refine aX f (tT f.size (hx.ext f) (aJ la J) (hv.ext f) (aJ le J)) J ?_;rintro _ _ ⟨_,_,_,_,rfl,fg⟩ fh aq;exact bQ J fh ⟨_,_,_,_,rfl,fg⟩
 ·exact fun _ _=>aC (pf g1 2 J (aI J))
 ·exact fun _ ew=>aO J (aC (lo aB (U.ext (e8.t (F.t (ak.t ew)))) (a5 sb Ab nb cb) J J J (aI J)))
 ·exact fun _ _=>aC (pf g6 0 J (aI J))
 ·exact fun _ fd=>aO J (aC (lo aB (M.ext (F.t (ak.t fd))) (a5 sd Ad nd cd) J J J (aI J)))
 ·intro _ dr;have f:=G.trans dr;refine aY J (aC ?_);have fk:ln (y*u)≤536870912:=a8 (dI Ly Lu) yd;refine aX f (tT f.size (hy.ext f) (aJ lb J) (hu.ext f) (aJ ld J)) J ?_;rintro _ _ ⟨_,_,_,_,rfl,cm⟩ ef aq;exact bQ J ef ⟨_,_,_,_,rfl,cm⟩
 ·intro _ de;have f:=G.trans de;refine aW J ?_;rintro _ _ ⟨_,_,_,_,rfl,L⟩ _ cj;have L:=L.ext cj;refine aW J ?_;rintro _ _ ⟨_,_,_,_,rfl,I⟩ _ eg;have I:=I.ext eg;refine aC ?_;have fj:ln (bW (x*v) (y*u))≤536870912:=gY bp;have fi:ln (cD (x*v) (y*u))≤536870912:=i6 bw;refine aX f (pX f.size L.zi (L.le (aJ bp J)) I.zi (I.le (aJ bw J))) J ?_;rintro _ _ ⟨_,_,rfl,⟨_,_,_,_,_,_,_,_,rfl,dw,dt,br⟩,rfl⟩ df aq;exact bQ J df ⟨_,_,rfl,⟨_,_,_,_,_,_,_,_,rfl,dw,dt,br⟩,rfl⟩
 ·intro _ _;refine aW J ?_;rintro _ _ ⟨_,_,rfl,⟨cp,cz,dy,ci,du,cv,ee,dh,rfl,X,Z,bu⟩,rfl⟩ _ bg;have X:=X.ext bg;have Z:=Z.ext bg;refine aC ?_;exact⟨a9 cp cz dy ci du cv ee dh,rfl,rfl,fun _=>by kernel_rfl,⟨_,_,_,_,_,_,_,_,rfl,X,Z,bu⟩⟩
 ·intro _ _;refine aW J ?_;rintro _ _ ⟨_,_,rfl,⟨_,_,_,_,_,_,_,_,rfl,bf,ba,_⟩,rfl⟩ _ az;have bf:=bf.ext az;have ba:=ba.ext az;refine aC ?_;exact⟨no (bR (y*u)),rfl,rfl,fun _=>by kernel_rfl,rfl⟩
 intro _ bi;have f:=G.trans bi;refine d6 J (aW J ?_);rintro _ _ ⟨_,_,_,_,rfl,ar⟩ _ da;have ar:=ar.ext da;refine d6 J (aW J ?_);rintro _ _ ⟨_,_,_,_,rfl,bd⟩ _ dz;have bd:=bd.ext dz;refine aW J ?_;rintro _ _ ⟨_,_,rfl,⟨_,_,_,_,_,_,_,_,rfl,aw,av,_⟩,rfl⟩ _ bj;have aw:=aw.ext bj;have av:=av.ext bj;refine aW J ?_;rintro _ _ ⟨Y,ao,V,aa,am,ag,W,ae,rfl,ah,ab,bm⟩ _ bh;have ah:=ah.ext bh;have ab:=ab.ext bh;refine aO J (aC ?_);have H:=(aj.ext (ak.t bi));refine so bJ H [.bool Y,up ao V aa,.bool am,up ag W ae] f ai J J J J fun _ bo au aq=>(bS 1 J (dM (aL (bA (aZ [a9 Y ao V aa am ag W ae,no (bR (y*u))] J ⟨⟨_,rfl,bK bJ bo [.bool Y,up ao V aa,.bool am,up ag W ae] J (bq J) rfl⟩,rfl,xl⟩ ?_)))));exact⟨_,rfl,⟨_,_,rfl,⟨_,_,_,_,_,_,_,_,rfl,((ah.updT H au)).cast (by simp only [l9,if_neg E]),((ab.updT H au)).cast (by simp only [lB,if_neg E]),bm⟩,(show (no (bR (y*u)):aF)=_ by simp only [lA,if_neg E])⟩,aq⟩
theorem a1W {nb:Nat}{nd:Nat}(hx:Zi w sa Aa na ca x)(la:na≤268435456)(hy:Zi w sb Ab nb cb y)(lb:nb≤268435456)(hu:Zi w sd Ad nd cd u)(ld:nd≤268435456)(hv:Zi w se Ae ne ce v)(le:ne≤268435456):aQ aM 37 #[a9 sa Aa na ca sb Ab nb cb,a9 sd Ad nd cd se Ae ne ce] w (Gv w (T2 (Is (no (bM (bW (x*v+ -u*y) (y*v)) 0))) (Is (no (bR (y*v)))))):=by
 have Lx:=bP hx la;have Ly:=bP hy lb;have Lu:=bP hu ld;have Lv:=bP hv le;refine bU Tryz.func37 18 J (sr (bx [.bool sa,up Aa na ca,.bool sb,up Ab nb cb] bN J J J fun _ _ U _ _ am=>(fY [.bool sd,up Ad nd cd,.bool se,up Ae ne ce] am U.lt J J J fun _ _ L _ _ e8 f=>(aE 2 J (sr (lo bJ (U.ext e8) [.bool sa,up Aa na ca,.bool sb,up Ab nb cb] J J J (lo bJ L [.bool sd,up Ad nd cd,.bool se,up Ae ne ce] J J J ?_)))))));have Z:ln (bW (x*v+ -u*y) (y*v))≤536870913:=gY (a8 (eK (dI Lx Lv) (dI (by rw [gQ];exact Lu) Ly)) yd);have aq:ln (cD (x*v+ -u*y) (y*v))≤536870912:=i6 (dI Ly Lv);refine aX f (OZ f.size (hx.ext f) (aJ la J) (hy.ext f) (aJ lb J) (hu.ext f) (aJ ld J) (hv.ext f) (aJ le J)) J ?_;rintro _ _ ⟨_,_,rfl,⟨o,G,F,E,H,X,W,I,rfl,V,_,_⟩,rfl⟩ ai ag;refine mv 1 J (aA (a9 o G F E H X W I) J (aA (no (bR (y*v))) J (bV [F0,S0,F0,S0] ag (L.ext ai).lt J fun ab _ h M _ ae ak=>(so bJ h [.bool o,up G F E,.bool H,up X W I] ak M J J J J fun _ Y aj ah=>(aE 1 J (sr (pf ab 0 J (lo aB Y (a5 o G F E) J J J (aX ah (jH ((V.ext ae).updT h aj).zi (V.le (aJ Z J))) J ?_)))))))));rintro _ _ rfl _ aa;refine aE 3 J (bA (aZ [no (bM (bW (x*v+ -u*y) (y*v)) 0),no (bR (y*v))] J ⟨rfl,rfl,xl⟩ ?_));exact⟨_,rfl,⟨_,_,rfl,rfl,rfl⟩,aa⟩
theorem T5 (x:Int):iX x=(if decide (x<0) then [45] else [])++(gE 10 x.natAbs++ []):=by
 unfold iX;rw [m7];by_cases h:x<0
 ·rw [if_pos h,decide_eq_true h];rfl
 rw [if_neg h,decide_eq_false h];rfl
section
variable {P:cO}{Q:dX→Act→a6→Prop}{n:Nat}{l:Fr}{w:a6}{ops:Array bE}{rest:List bE}{d:Nat}{ty:aS}{pos:String}{af:Array fL}{gd:Option (Nat×Bool)}
theorem a1N {a:cR→aF}{x y:cR}{t:aS}(hx:a x= .string (aN bs))(hy:a y= no (i:Int))(ht:P.underlying t=some .string)(hi:i≤bs.length):(execOp a ⟨dst,.slice t x (some y) none none,ty,pos,af,gd⟩).run P w= .ok (.value (.string (aN (bs.drop i)))) w:=by
 have e:(Instr.sliceAt t (a x) ((some y).map a) (Option.map a none) (Option.map a none)).run P w= .ok (.string (aN (bs.drop i))) w:=by
  show (Instr.sliceAt t (a x) (some (a y)) none none).run P w=_
  rw [hx,hy,DY ht,run_slice_string_l (ht:=ht) (kl:= .i64) (l:=(i:Int)) (h0:=by omega) (h1:=by rw [eJ];omega),jB,J6]
 show ((Instr.sliceAt t (a x) ((some y).map a) (Option.map a none) (Option.map a none)>>=fun r=>pure (iE r):Sem Next)).run P w=_;rw [cV,e];rfl
theorem a1O {a:cR→aF}{o:BinOp}{t t':aS}{x y:cR}{A B:Int}(hx:a x= .int k A)(hy:a y= .int k B)(c:Int)(hc:eY o k A B=some c):(execOp a ⟨dst,.binOp o t x y t',ty,pos,af,gd⟩).run P w= .ok (.value (.int k c)) w:=by
 have e:((do eqGuard o t x y (a x) (a y);binOp o t (a x) (a y)):Sem aF).run P w= .ok (.int k c) w:=by
  rw [hx,hy];exact E2 hc
 show ((((do eqGuard o t x y (a x) (a y);binOp o t (a x) (a y)):Sem aF)>>=fun r=>pure (iE r)):Sem Next).run P w=_;rw [cV,e];rfl
end
theorem OS (hx:Zr w base s A n cap x)(hl:n≤1099511627776)(hy:Zr w base' t B m cap' y)(hl':m≤1099511627776)(h:x=y):aQ aM 11 #[O s A n cap,O t B m cap'] w (Gv w (Is (we))):=(xY hx hl hy hl' (b:=true) (decide_eq_true h).symm).mono BH
theorem a1j {s' t':Bool}{A' B':Option a7}{n' dap m' dap':Nat}(hx:Zr w base s A n cap x)(hl:n≤1099511627776)(hy:Zr w base s' A' n' cap' y)(hl':n'≤1099511627776)(hu:Zr w base' t B m dap u)(hk:m≤1099511627776)(hv:Zr w base' t' B' m' dap' v)(hk':m'≤1099511627776)(h1:x=u)(h2:y=v):aQ aM 45 #[a9 s A n cap s' A' n' cap',a9 t B m dap t' B' m' dap'] w (Gv w (Is (we))):=(a0m hx hl hy hl' hu hk hv hk' h1 h2).mono BH
theorem LV (hc:c<256)(hd:d<256):(UInt8.ofNat c==UInt8.ofNat d)=decide (c=d):=by
 by_cases h:c=d
 ·subst h;simp
 rw [decide_eq_false h,beq_eq_false_iff_ne];intro e;have:=congrArg UInt8.toNat e;rw [UInt8.toNat_ofNat',UInt8.toNat_ofNat'] at this;omega
theorem a0z {b:List Nat}(hc:c<256)(ha:∀x,x∈a→x<256∧x≠c):Lib.indexByte ((a++c::b).map UInt8.ofNat) (UInt8.ofNat c)=(a.length:Int):=by
 induction a with
 | nil=>show (if UInt8.ofNat c==UInt8.ofNat c then (0:Int) else _)=0;rw [if_pos ym]
 | cons x r ih=>
  have hx:=ha x List.mem_cons_self
  have ih:=ih fun y hy=>ha y (List.mem_cons_of_mem _ hy)
  show (if UInt8.ofNat x==UInt8.ofNat c then (0:Int) else if Lib.indexByte ((r++c::b).map UInt8.ofNat) (UInt8.ofNat c)== -1 then-1 else Lib.indexByte ((r++c::b).map UInt8.ofNat) (UInt8.ofNat c)+1)=_
  rw [LV hx.1 hc,decide_eq_false hx.2,if_neg yd,ih,if_neg (by rw [beq_iff_eq];omega),fO]
  omega
theorem a0A (hc:c<256)(ha:∀x,x∈a→x<256∧x≠c):Lib.indexByte (a.map UInt8.ofNat) (UInt8.ofNat c)= -1:=by
 induction a with
 | nil=>rfl
 | cons x r ih=>
  have hx:=ha x List.mem_cons_self
  have ih:=ih fun y hy=>ha y (List.mem_cons_of_mem _ hy)
  show (if UInt8.ofNat x==UInt8.ofNat c then (0:Int) else if Lib.indexByte (r.map UInt8.ofNat) (UInt8.ofNat c)== -1 then-1 else Lib.indexByte (r.map UInt8.ofNat) (UInt8.ofNat c)+1)=_
  rw [LV hx.1 hc,decide_eq_false hx.2,if_neg yd,ih,if_pos yd]
theorem OE {i:Int}(h:Lib.indexByte (bs.map UInt8.ofNat) (UInt8.ofNat 47)=i):aQ aM 144 #[.string (aN bs),.string (aN [47])] w (Gv w (Is (no i))):=by
 refine (Tryz.stringslite_Index_one (aN bs) (UInt8.ofNat 47) w).mono ?_;rintro e w' ⟨rfl,rfl⟩;refine⟨_,rfl,?_,Ext.refl _⟩;show eL .i64 (Lib.indexByte (aN bs).data.toList (UInt8.ofNat 47))=_;rw [←h];unfold aN;rw [List.toList_toArray]
theorem a03 {b:List Nat}(ha:∀x,x∈a→x<256∧x≠47)(hlen:(a++47::b).length≤1099511627776):aQ aM 112 #[.string (aN (a++47::b)),.string (aN ([47]))] w (Gv w (T3 (Is (.string (aN a))) (Is (.string (aN b))) (Is (we)))):=by
 refine bU Tryz.func112 23 J (sr (aE 3 J (aD (aV 2 J (bI [.string (aN (a++47::b)),.string (aN ([47]))] bN (OE (bs:=a++47::b) (a0z yd ha)) J ?_)))));rintro _ _ rfl _ f;refine aE 1 J (aD ?_);have E:(a++47::b).length=a.length+1+b.length:=by simp;omega
 refine aK 1 J (aH J (i8 a.length 0 J) (aG (bC J (aD ?_))));refine dW cM 9 [3,4,5,6,7,8] [Is (.string (aN (a++47::b))),Is (no (a.length:Nat)),Is (.string (aN ((a++47::b).take a.length))),Is (.string (aN (a++47::b))),Is (no (a.length:Nat)),Is (.string (aN ([47]))),Is (no 1),Is (no (a.length+1:Nat)),Is (.string (aN ((a++47::b).drop (a.length+1))))] [[],[],[0,1],[],[],[],[5],[4,6],[3,7]] rfl (cG J ?_ (cG J ?_ (cG J ?_ (gL J J (gM J ?_) (gL J J (gM J ?_) (gL J J (gM J ?_) (gL J J (gM J ?_) (gL J J (gM J ?_) (gL J J (gM J ?_) dN))))))))) ?_
 ·exact fun _ _=>aC (mv 1 J (aI J))
 ·exact fun _ _=>aC (mv 1 J (aI J))
 ·exact fun _ _=>aY J (aC (wU (bs:=a++47::b) (i:=a.length) J J J Tryz.underlying9 (aI J)))
 ·exact fun _ _=>aC (⟨.string (aN (a++47::b)),rfl,rfl,fun _=>by kernel_rfl,rfl⟩)
 ·exact fun _ _=>aC (⟨no (a.length:Nat),rfl,rfl,fun _=>by kernel_rfl,rfl⟩)
 ·exact fun _ _=>aC (⟨.string (aN ([47])),rfl,rfl,fun _=>by kernel_rfl,rfl⟩)
 ·exact fun _ _=>aO J (aC (⟨no 1,rfl,rfl,fun _=>by kernel_rfl,rfl⟩))
 ·exact fun _ _=>aY J (aC (⟨no (a.length+1:Nat),rfl,rfl,fun _=>(a1O J J ((a.length+1:Nat):Int) (cK a.length 1 J)),rfl⟩))
 ·exact fun _ _=>aY J (aC (⟨.string (aN ((a++47::b).drop (a.length+1))),rfl,rfl,fun _=>a1N (bs:=a++47::b) (i:=a.length+1) J J Tryz.underlying9 i9,rfl⟩))
 intro _ o;have h:=f.trans o;refine d6 J (d6 J (aO J (aC (bS 3 J (dM (aL ?_))))));refine bA (cI (aZ [.string (aN ((a++47::b).take a.length)),.string (aN ((a++47::b).drop (a.length+1))),we] J ⟨rfl,rfl,rfl,xl⟩ ?_));exact⟨_,rfl,⟨_,_,_,rfl,(show Value.string _= .string (aN a) by rw [List.take_left]),(show Value.string _= .string (aN b) by rw [show a.length+1=(a++ [47]).length by simp,show a++47::b=(a++ [47])++b by simp,List.drop_left]),rfl⟩,h⟩
theorem a04 {b:List Nat}(ha:∀x,x∈a→x<256∧x≠47)(hlen:(a).length≤1099511627776):aQ aM 112 #[.string (aN a),.string (aN ([47]))] w (Gv w (T3 (Is (.string (aN a))) (Is (.string (aN []))) (Is (wk)))):=by
 refine bU Tryz.func112 23 J (sr (aE 3 J (aD (aV 2 J (bI [.string (aN a),.string (aN ([47]))] bN (OE (bs:=a) (a0A yd ha)) J ?_)))));rintro _ _ rfl _ f;refine aE 1 J (aV 1 J (fP J J J false (aG (aT J (bB (aL (sr (aE 4 J (bA (aZ [.string (aN a),.string (aN ([])),F0] J ⟨rfl,rfl,rfl,xl⟩ ?_))))))))));exact⟨_,rfl,⟨_,_,_,rfl,rfl,rfl,rfl⟩,f⟩
theorem a1D {b:List Nat}(ha:∀x,x∈a→x<256∧x≠47)(hlen:(a++47::b).length≤1099511627776):aQ aM 80 #[.string (aN (a++47::b)),.string (aN ([47]))] w (Gv w (T3 (Is (.string (aN a))) (Is (.string (aN b))) (Is (we)))):=by
 refine bU Tryz.func80 13 J (sr (aE 3 J (aV 2 J (bI [.string (aN (a++47::b)),.string (aN ([47]))] bN (a03 ha hlen) J ?_))));rintro _ _ ⟨_,_,_,rfl,rfl,rfl,rfl⟩ _ f;refine aA (.string (aN a)) J (aA (.string (aN b)) J (aA (we) J (aE 3 J (bA (aZ [.string (aN a),.string (aN b),we] J ⟨rfl,rfl,rfl,xl⟩ ?_)))));exact⟨_,rfl,⟨_,_,_,rfl,rfl,rfl,rfl⟩,f⟩
theorem a1E {b:List Nat}(ha:∀x,x∈a→x<256∧x≠47)(hlen:(a).length≤1099511627776):aQ aM 80 #[.string (aN a),.string (aN ([47]))] w (Gv w (T3 (Is (.string (aN a))) (Is (.string (aN []))) (Is (wk)))):=by
 refine bU Tryz.func80 13 J (sr (aE 3 J (aV 2 J (bI [.string (aN a),.string (aN ([47]))] bN (a04 (b:=b) ha hlen) J ?_))));rintro _ _ ⟨_,_,_,rfl,rfl,rfl,rfl⟩ _ f;refine aA (.string (aN a)) J (aA (.string (aN ([]))) J (aA (wk) J (aE 3 J (bA (aZ [.string (aN a),.string (aN ([])),F0] J ⟨rfl,rfl,rfl,xl⟩ ?_)))));exact⟨_,rfl,⟨_,_,_,rfl,rfl,rfl,rfl⟩,f⟩
def mW (p q:Int):List Nat:=if q=1 then iX p else (iX p++ [47])++iX q
theorem OU (hb:b≤w.heap.size)(hlow:Low p q x y)(hx:Zi w s A n cap x)(hl:n≤1073741824)(hy:Zi w t B m cap' y)(hl':m≤1073741824):aQ aM 16 #[O s A n cap,O t B m cap'] w (Gv w (T2 (FR b p q) (Is (no 0)))):=by
 have h0:y≠0:=fun e=>by have:=hlow.nq;have:=hlow.pos;subst e;simp at*;omega
 have h:=pX hb hx hl hy hl';obtain⟨rfl,rfl⟩:=ZL hlow (oS h0);rw [oT h0] at h;exact h.mono (Gv.imp (T2.imp FA.fr Is.imp))
theorem OT (hb:b≤w.heap.size)(hx:Zi w s A n cap x)(hl:n≤1073741824)(hy:Zi w t B m cap' y)(hl':m≤1073741824)(h0:y=0):aQ aM 16 #[O s A n cap,O t B m cap'] w (Gv w (T2 (FR b 0 0) (Is (no 4)))):=by
 have h:=pX hb hx hl hy hl';rw [EK h0,LW h0,qK h0] at h;exact h.mono (Gv.imp (T2.imp FA.fr Is.imp))
theorem FG {t:List Nat}(ht:t=iX x)(hx:Zi w s A n c x)(la:n≤4194304)(hS:Signs w):aQ aM 79 #[O s A n c] w (Gv w (Is (.string (aN t)))):=by subst ht;exact VC hx la hS
theorem zO (h:ln x≤1048576):(iX x).length≤67108866:=by
 have h2:(gE 10 x.natAbs).length≤67108865:=DH (b:=10) (n:=1048576) h;rw [T5,m7,f8];have:(if decide (x<0)=true then [45] else ([]:List Nat)).length≤1:=by split <;> simp
 omega
theorem a1r {nd:Nat}(hx:Zi w sa Aa na ca x)(la:na≤1048576)(hy:Zi w sd Ad nd cd y)(ld:nd≤1048576)(h0:y=0):aQ aM 40 #[a9 sa Aa na ca sd Ad nd cd] w (Gv w (T2 (Is (.string (aN []))) (Is (no 4)))):=by
 have Lx:=bP hx la;have Ly:=bP hy ld;refine bU Tryz.func40 33 J (sr (bx [.bool sa,up Aa na ca,.bool sd,up Ad nd cd] bN J J J fun Z _ h _ _ f=>(aE 2 J (sr (pf Z 0 J (lo aB h (a5 sa Aa na ca) J J J (pf Z 2 J (lo aB h (a5 sd Ad nd cd) J J J (aX f (OT f.size (hx.ext f) (aJ la J) (hy.ext f) (aJ ld J) h0) J ?_)))))))));rintro _ _ ⟨_,_,rfl,⟨G,U,L,H,I,V,F,E,rfl,_,_⟩,rfl⟩ e7 W;refine mv 1 J (aA (a9 G U L H I V F E) J (aA (no 4) J (bV [F0,S0,F0,S0] W (h.ext e7).lt J fun _ _ M o _ _ X=>(so bJ M [.bool G,up U L H,.bool I,up V F E] X o J J J J fun _ _ _ Y=>(aE 1 J (aD (aV 1 J (fP J J J true (aG (bC J (aD ?_)))))))))));refine bH (aE 3 J (bA (cI (aZ [.string (aN ([])),no 4] J ⟨rfl,rfl,xl⟩ ?_))));exact⟨_,rfl,⟨_,_,rfl,rfl,rfl⟩,Y⟩
theorem a1s {nd:Nat}(hx:Zi w sa Aa na ca x)(la:na≤1048576)(hy:Zi w sd Ad nd cd y)(ld:nd≤1048576)(hS:Signs w)(hlow:Low p q x y):aQ aM 40 #[a9 sa Aa na ca sd Ad nd cd] w (Gv w (T2 (Is (.string (aN (mW p q)))) (Is (no 0)))):=by
 have Lx:=bP hx la;have Ly:=bP hy ld;have Lp:ln p≤1048576:=a8 (fR hlow.np) Lx;have Lq:ln q≤1048576:=a8 (fR hlow.nq) Ly;have dl:=hlow.pos;obtain⟨sp,ae⟩:∃t,t=iX p:=⟨_,rfl⟩;obtain⟨sq,au⟩:∃t,t=iX q:=⟨_,rfl⟩;have dg:sp.length≤67108866:=ae▸zO Lp;have df:sq.length≤67108866:=au▸zO Lq;refine bU Tryz.func40 33 J (sr (bx [.bool sa,up Aa na ca,.bool sd,up Ad nd cd] bN J J J fun g1 _ av _ _ aj=>(aE 2 J (sr (pf g1 0 J (lo aB av (a5 sa Aa na ca) J J J (pf g1 2 J (lo aB av (a5 sd Ad nd cd) J J J (aX aj (OU aj.size hlow (hx.ext aj) (aJ la J) (hy.ext aj) (aJ ld J)) J ?_)))))))));rintro _ _ ⟨_,_,rfl,⟨aa,Y,Z,ag,H,M,L,F,rfl,ai,V⟩,rfl⟩ e7 ct;refine mv 1 J (aA (a9 aa Y Z ag H M L F) J (aA (no 0) J (bV [F0,S0,F0,S0] ct (av.ext e7).lt J fun E _ o bo _ ab cm=>(so bJ o [.bool aa,up Y Z ag,.bool H,up M L F] cm bo J J J J fun _ I X W=>(aE 1 J (aD (aV 1 J (fP J J J false (aG (aT J (bB ?_)))))))))));refine aL (aD (aD ?_));by_cases h1:q=1
 ·refine dW cM 5 [] [Is (i5 E 2),Is (O H M L F),ZR w.heap.size (1),Is (no (bM q 1)),Is (we)] [[],[0],[],[1,2],[3]] rfl (bY J ?_ ?_ ?_ ?_ (cG J ?_ dN)) ?_
  ·exact fun _ _=>aC (pf E 2 J (aI J))
  ·exact fun _ cp=>aO J (aC (lo aB (I.ext cp) (a5 H M L F) J J J (aI J)))
  ·intro _ cz;have f:=W.trans cz;refine aC (bI [no 1] f (l7 f.size yd yd) J ?_);rintro _ _ ⟨_,_,_,_,rfl,bw⟩ cv h;exact bQ J cv ⟨_,_,_,_,rfl,bw⟩
  ·intro _ aw;have f:=W.trans aw;refine aO J (aW J ?_);rintro _ _ ⟨_,_,_,_,rfl,ah⟩ _ ci;have ah:=ah.ext ci;refine aC (aX f (rX (((V.ext ab).updT o X).ext aw).zi (V.le (aJ Lq J)) ah.zi (ah.le (a8 (show ln (1)≤1 by decide+kernel) yd))) J ?_);rintro _ _ rfl cj h;exact bQ J cj rfl
  ·exact fun _ _=>aO J (aC (aH J (fE (mA.2 h1)) (aI J)))
  intro _ ar;have f:=W.trans ar;refine aY J (aW J ?_);rintro _ _ ⟨_,_,_,_,rfl,ba⟩ _ da;have ba:=ba.ext da;refine aY J (aC (cF (dM (aL (bC J (sr (pf E 0 J (lo aB (I.ext ar) (a5 aa Y Z ag) J J J (aX f (FG ae (((ai.ext ab).updT o X).ext ar).zi (ai.le (aJ Lp J)) (hS.ext f)) J ?_)))))))));rintro _ _ rfl _ h;refine aE 2 J (bA (cI (aZ [.string (aN sp),I0] J ⟨rfl,rfl,xl⟩ ?_)));exact⟨_,rfl,⟨_,_,rfl,(show Value.string _= .string (aN (mW p q)) by unfold mW;rw [if_pos h1,←ae]),rfl⟩,h⟩
 refine dW cM 5 [] [Is (i5 E 2),Is (O H M L F),ZR w.heap.size (1),Is (no (bM q 1)),Is (wk)] [[],[0],[],[1,2],[3]] rfl (bY J ?_ ?_ ?_ ?_ (cG J ?_ dN)) ?_
 ·exact fun _ _=>aC (pf E 2 J (aI J))
 ·exact fun _ ch=>aO J (aC (lo aB (I.ext ch) (a5 H M L F) J J J (aI J)))
 ·intro _ bg;have f:=W.trans bg;refine aC (bI [no 1] f (l7 f.size yd yd) J ?_);rintro _ _ ⟨_,_,_,_,rfl,bd⟩ bj h;exact bQ J bj ⟨_,_,_,_,rfl,bd⟩
 ·intro _ am;have f:=W.trans am;refine aO J (aW J ?_);rintro _ _ ⟨_,_,_,_,rfl,U⟩ _ br;have U:=U.ext br;refine aC (aX f (rX (((V.ext ab).updT o X).ext am).zi (V.le (aJ Lq J)) U.zi (U.le (a8 (show ln (1)≤1 by decide+kernel) yd))) J ?_);rintro _ _ rfl az h;exact bQ J az rfl
 ·exact fun _ _=>aO J (aC (aH J (gC (fun e=>h1 (mA.1 e))) (aI J)))
 intro _ G;have f:=W.trans G;refine aY J (aW J ?_);rintro _ _ ⟨_,_,_,_,rfl,ak⟩ _ bm;have ak:=ak.ext bm;refine aY J (aC (cF (dM (aL (aT J (bB (aL (aD ?_))))))));refine dW cM 8 [] [Is (i5 E 0),Is (O aa Y Z ag),Is (.string (aN sp)),Is (.string (aN (sp++([47])))),Is (i5 E 2),Is (O H M L F),Is (.string (aN sq)),Is (.string (aN ((sp++([47]))++sq)))] [[],[0],[1],[2],[],[4],[5],[3,6]] rfl (bY J ?_ ?_ ?_ ?_ (bY J ?_ ?_ ?_ ?_ dN)) ?_
 ·exact fun _ _=>aC (pf E 0 J (aI J))
 ·exact fun _ bp=>aO J (aC (lo aB (I.ext (G.t bp)) (a5 aa Y Z ag) J J J (aI J)))
 ·intro _ aq;have h:=f.trans aq;refine aO J (aC (aX h (FG ae (((ai.ext ab).updT o X).ext (G.t aq)).zi (ai.le (aJ Lp J)) (hS.ext h)) J ?_));rintro _ _ rfl bi _;exact bQ J bi rfl
 ·exact fun _ _=>aO J (aC (pL J J J (r:= .string (aN (sp++([47])))) J (fun w=>uT (a:=sp) (b:= [47]) (by simp only [f8,fO,List.length_nil];omega)) (aI J)))
 ·exact fun _ _=>aC (pf E 2 J (aI J))
 ·exact fun _ bf=>aO J (aC (lo aB (I.ext (G.t bf)) (a5 H M L F) J J J (aI J)))
 ·intro _ ao;have h:=f.trans ao;refine aO J (aC (aX h (FG au (((V.ext ab).updT o X).ext (G.t ao)).zi (V.le (aJ Lq J)) (hS.ext h)) J ?_));rintro _ _ rfl bu _;exact bQ J bu rfl
 ·exact fun _ _=>aY J (aC (pL J J J (r:= .string (aN ((sp++([47]))++sq))) J (fun w=>uT (a:=sp++([47])) (b:=sq) (by simp only [f8,fO,List.length_nil];omega)) (aI J)))
 intro _ bh;have h:=f.trans bh;refine d6 J (d6 J (aC (bS 2 J (dM (aL (bA ?_))))));refine aZ [.string (aN ((sp++([47]))++sq)),I0] J ⟨rfl,rfl,xl⟩ ?_;exact⟨_,rfl,⟨_,_,rfl,(show Value.string _= .string (aN (mW p q)) by unfold mW;rw [if_neg h1,←ae,←au]),rfl⟩,h⟩
theorem UpdO.refl (A:Option a7)(w:a6):UpdO A w w:=⟨GY _ _⟩
theorem UpdO.trans {a b c:a6}(h:UpdO A a b)(k:UpdO A b c):UpdO A a c:=
 ⟨⟨k.by_.os.trans h.by_.os,k.by_.tape.trans h.by_.tape,k.by_.output.trans h.by_.output,a8 h.by_.size k.by_.size,
  fun i hi f=>(k.by_.block i (dA hi h.by_.size) f).trans (h.by_.block i hi f)⟩⟩
theorem UpdO.then_ext {a b c:a6}(h:UpdO A a b)(e:Ext b c):UpdO A a c:=
 ⟨⟨e.below.os.trans h.by_.os,e.below.tape.trans h.by_.tape,e.below.output.trans h.by_.output,a8 h.by_.size e.below.size,
  fun i hi f=>(e.below.block i (dA hi h.by_.size)).trans (h.by_.block i hi f)⟩⟩
theorem Own.at1 {f:Nat→aF}(h:Own w lb T 1 A n c (xs.map f))(hi:i<n):∃p,A.map (·.add (i*1))=some p∧w.cell? p=some (f (xs.getD i 0)):=by
 have hl:=h.rv.len;rw [List.length_map,eH] at hl;obtain⟨a,rfl,hc⟩:=h.rv.get i i9;refine⟨a.add i,by rw [eH];rfl,?_⟩;rw [hc];simp [bL,jM,cT (show i<xs.length by omega)]
theorem rM {f:Nat→aF}(h:Own w b T 1 A n c (l.map f)):l.length=n:=by have:=h.rv.len;rwa [List.length_map,eH] at this
theorem Own.take1 {k:Nat}{f:Nat→aF}(h:Own w lb T 1 A n c (xs.map f))(hk:k≤n):Own w lb T 1 A k c ((xs.take k).map f):=by
 have:=h.take hk;rwa [eH,←m6] at this
theorem LL {f:Nat→aF}(h:Own w lb T 1 A n c (xs.map f)){u:Nat}(hi:i<n)(h1:(f u).oneCell'=true)(hcl:(f u).cells= #[f u]){P:cO}(hT:∀w,(sizeOf T').run P w= .ok 1 w){p:a7}(hp:A.map (·.add (i*1))=some p):∃w',(storeVar T' p (f u)).run P w= .ok () w'∧Own w' lb T 1 A n c ((xs.set i u).map f)∧UpdO A w w':=by
 rcases h with⟨_,rfl,_,_⟩ | ⟨g,cs,rfl,hb,G,hn,hm,hl,E⟩
 ·omega
 rw [sM,f7,eH,jI,eR] at hp;subst hp;rw [eH] at hl E;obtain⟨w',hr,o,F,_⟩:=xE (P:=P) (v:=f u) hT hcl G (show i<cs.length by omega) h1 _ rfl;refine⟨w',hr,cN ⟨g,_,rfl,hb,o,hn,hm,by rw [List.length_set,hl,eH],?_⟩,F.updO⟩;rw [eH,List.take_set,E,List.map_set]
section
variable {P:cO}{Q:dX→Act→a6→Prop}{n:Nat}{l:Fr}{w:a6}{ops:Array bE}{rest:List bE}{d:Nat}{ty:aS}{pos:String}{af:Array fL}{gd:Option (Nat×Bool)}
theorem I8 {x y:cR}{f:Nat→aF}{u:Nat}{p:a7}(hw:dD ops l gd=some true)(hx:cB l x=some (.pointer (some p)))(hy:cB l y=some (f u))(hp:A.map (·.add (i*1))=some p)(h:Own w lb T 1 A m c (xs.map f))(hi:i<m)(h1:(f u).oneCell'=true)(hcl:(f u).cells= #[f u])(hT:∀w,(sizeOf T').run P w= .ok 1 w)(k:∀w',Own w' lb T 1 A m c ((xs.set i u).map f)→UpdO A w w'→wl P ops Q n rest l w'):wl P ops Q n (⟨none,.store T' x y,ty,pos,af,gd⟩::rest) l w:=by
 obtain⟨w',hr,h2,o⟩:=LL (P:=P) (T':=T') h hi h1 hcl hT hp;exact wV hw hx hy hr (k w' h2 o)
end
theorem rH:Tryz.prog.underlying 88=some (.slice 3):=Tryz.underlying88
theorem qH (w:a6):(sizeOf 3).run aM w= .ok 1 w:=by kernel_rfl
def OI (b:Nat)(ds:List Nat)(v:aF)(w:a6):Prop:=∃A n c,v= up A n c∧ds.length=n∧Own w b 3 1 A n c (ds.map I6)
theorem a02 (hx:Wi w A n c m)(hl:n≤274877906943):aQ aM 130 #[up A n c] w (Gv w (OI w.heap.size (db 65536 m))):=by
 obtain⟨xs,h1,rfl⟩:=hx;refine (tE h1 hl).mono fun e w' h=>?_;obtain⟨A,n,c,rfl,h1,h2,o,f⟩:=h;exact⟨_,rfl,⟨A,n,c,rfl,h1.out.symm,o⟩,f⟩
theorem WH (n:Nat):dF n (eL .u8 0)=(dF n 0).map B8:=by rw [List.map_replicate];rfl
def JG:List Nat:= [48,49,50,51,52,53,54,55,56,57,97,98,99,100,101,102,103,104,105,106,107,108,109,110,111,112,113,114,115,116,117,118,119,120,121,122]
theorem uV (h:d<36):JG.getD d 0=sgn d:=by
 have key:∀d,d<36→JG.getD d 0=sgn d:=by decide
 exact key d h
theorem YI (hb:0<base)(hj:0<j)(hjl:j≤l.length)(hl:l.length=ds.length)(ht:l.take j=ds.take j)(h:nb 65536 (ds.drop j)=base*nb 65536 (l.drop j)+rest):nb 65536 (ds.drop (j-1))=base*nb 65536 ((l.set (j-1) ((rest*65536+l.getD (j-1) 0)/base)).drop (j-1))+(rest*65536+l.getD (j-1) 0)%base:=by
 have o:l.getD (j-1) 0=ds.getD (j-1) 0:=by
  have h1:(l.take j).getD (j-1) 0=(ds.take j).getD (j-1) 0:=by rw [ht]
  simpa [bL,List.getElem?_take,show j-1<j by omega] using h1
 have E:ds.drop (j-1)=ds.getD (j-1) 0::ds.drop j:=by
  rw [BV i9,show j-1+1=j by omega]
 have F:(l.set (j-1) ((rest*65536+l.getD (j-1) 0)/base)).drop (j-1)=((rest*65536+l.getD (j-1) 0)/base)::l.drop j:=by
  rw [BV (by rw [List.length_set];omega)]
  congr 1
  ·simp [bL,show j-1<l.length by omega]
  ·rw [show j-1+1=j by omega,List.drop_set_of_lt i9]
 rw [E,F,nB,nB,h,←o];have f:=Nat.div_add_mod (rest*65536+l.getD (j-1) 0) base;generalize (rest*65536+l.getD (j-1) 0)/base=q at f⊢;generalize (rest*65536+l.getD (j-1) 0)%base=r at f⊢;have G:base*(q+65536*nb 65536 (l.drop j))=base*q+65536*(base*nb 65536 (l.drop j)):=by rw [dE,Nat.mul_left_comm]
 rw [G];omega
theorem YO {v:Nat}(hi:i<l.length)(hl:l.length=ds.length)(ht:l.drop i=ds.drop i)(h:nb 65536 (l.take i)+65536^i*c=nb 65536 (ds.take i)*base+v):nb 65536 ((l.set i ((l.getD i 0*base+c)%65536)).take (i+1))+65536^(i+1)*((l.getD i 0*base+c)/65536)=nb 65536 (ds.take (i+1))*base+v:=by
 have f:l.getD i 0=ds.getD i 0:=by
  have h1:(l.drop i).getD 0 0=(ds.drop i).getD 0 0:=by rw [ht]
  simpa [bL,nO] using h1
 rw [pQ 65536 hi,dS,cU,k8,←dE,kF,jE 65536 ds i i9,eE,←f,dE,cU];omega
theorem JJ (h:dv c<36)(hn:¬(65≤c∧c≤90)):sgn (dv c)=c:=by
 unfold dv at h⊢;unfold sgn
 (repeat' split at h) <;> (repeat' split) <;> omega
theorem YJ (h:rest<base)(hd:d<65536):(rest*65536+d)/base<65536:=by
 rw [Nat.div_lt_iff_lt_mul i9];have:(rest+1)*65536≤base*65536:=Nat.mul_le_mul_right _ h;omega
theorem a2q {a q r:Nat}(hb:0<b)(hr:r<b)(h:a=b*q+r):a/b=q∧r=a%b:=by
 subst h;exact⟨by rw [Nat.mul_add_div hb,jL hr,fN],by rw [Nat.mul_add_mod,Nat.mod_eq_of_lt hr]⟩
theorem KF (hc:c≤255):aQ aM 156 #[.int .u8 ((c:Nat):Int)] w (Gv w (Is (no (if dv c<36 then ((dv c:Nat):Int) else 99)))):=by
 refine bU Tryz.func156 23 J (sr (aE 1 J (aD (aD ?_))));by_cases L:c≥65
 ·by_cases I:c≤90
  ·refine aK 1 J (aH J (i8 c 65 J) (mv 2 J (aH J (pS c 90 J) (aA (we) J (aG (bC J (aV 1 J (eC J J J ((c-65:Nat):Int) (a3U (a:=c) (b:=65) J J i9 i9) (eQ J J (v:= no (IntKind.i64.wrap ((c-65:Nat):Int))) (v':= no (c-65:Nat)) (sD (by first | omega | exact hle64)) (bD J (cK (c-65) 10 J) (mv 1 J ?_)))))))))));refine aG (bA (cI (aZ [no ((c-65)+10:Nat)] J ⟨rfl,xl⟩ ?_)));have G:dv c=(c-65)+10:=by unfold dv;rw [if_neg i9,if_neg i9,if_pos i9];omega
   exact⟨_,rfl,(show eL .i64 ((((c-65)+10:Nat):Int))=_ by rw [G,if_pos i9]),bN⟩
  refine aK 1 J (aH J (i8 c 65 J) (mv 2 J (aH J (pT c 90 J) (aA (wk) J (aG (aT J (bB (aL (aD (sr (bS 1 J ?_)))))))))));refine aL (bO ?_);refine dC (T:=a6×Nat) (fun⟨wr,i⟩=> [(0,.int .u8 ((c:Nat):Int)),(3,no i)]) (fun⟨wr,i⟩=>wr) (fun⟨wr,i⟩=>(Ext w wr)∧(i≤36)∧(∀j,j<i→sgn j≠c)) (fun⟨wr,i⟩=>36-i) (⟨w,0⟩:a6×Nat) ⟨bN,(bX _),(fun j H=>absurd H (Nat.not_lt_zero _))⟩ J (aP J) ?_;rintro⟨wr,i⟩ ⟨o,hi,E⟩;refine aD (aD ?_);by_cases f:i<36
  ·refine aK 1 J (aH J (dV i 36 J) (aG (bC J (bB (aL (aD (bO (aD ?_))))))));by_cases F:([48,49,50,51,52,53,54,55,56,57,97,98,99,100,101,102,103,104,105,106,107,108,109,110,111,112,113,114,115,116,117,118,119,120,121,122]).getD i 0=c
   ·refine aK 1 J (fF (bs:= [48,49,50,51,52,53,54,55,56,57,97,98,99,100,101,102,103,104,105,106,107,108,109,110,111,112,113,114,115,116,117,118,119,120,121,122]) (i:=i) J J J Tryz.underlying9 yd (mv 1 J (aH J (gZ (([48,49,50,51,52,53,54,55,56,57,97,98,99,100,101,102,103,104,105,106,107,108,109,110,111,112,113,114,115,116,117,118,119,120,121,122]).getD i 0) c J) (aG (bC J (sr (aE 2 J (bA (gV (cI (oC ?_)))))))))));refine gV (cI (aZ [no i] J ⟨rfl,xl⟩ ?_));have G:dv c=i:=by rw [←F];exact (congrArg dv (uV f)).trans (P6 f)
    exact⟨_,rfl,(show eL .i64 ((i:Nat):Int)=_ by rw [G,if_pos f]),o⟩
   refine aK 1 J (fF (bs:= [48,49,50,51,52,53,54,55,56,57,97,98,99,100,101,102,103,104,105,106,107,108,109,110,111,112,113,114,115,116,117,118,119,120,121,122]) (i:=i) J J J Tryz.underlying9 yd (mv 1 J (aH J (hJ (([48,49,50,51,52,53,54,55,56,57,97,98,99,100,101,102,103,104,105,106,107,108,109,110,111,112,113,114,115,116,117,118,119,120,121,122]).getD i 0) c J) (aG (aT J (bB (bT (aL (aK 1 J (bD J (cK i 1 J) (mv 1 J ?_)))))))))));refine cF (cP (⟨wr,i+1⟩:a6×Nat) ⟨o,i9,(fun j H=>by by_cases h:j=i;(· subst h;rw [←uV f];exact F);(· exact E j i9))⟩ (show 36-(i+1)<36-i by omega) J (aP J))
  refine aK 1 J (aH J (dQ i 36 J) (aG (aT J (d9 (cY (d7 (d8 (aL (sr (aE 1 J (bA ?_)))))))))));refine aZ [no 99] J ⟨rfl,xl⟩ ?_;have G:¬dv c<36:=fun h=>E (dv c) i9 (JJ h i9);exact⟨_,rfl,(show eL .i64 (99:Int)=_ by rw [if_neg G]),o⟩
 refine aK 1 J (aH J (nE c 65 J) (mv 3 J (aA (wk) J (aG (aT J (bB (aL (aD (sr (aE 1 J (bO ?_)))))))))));refine dC (T:=a6×Nat) (fun⟨wr,i⟩=> [(0,.int .u8 ((c:Nat):Int)),(3,no i)]) (fun⟨wr,i⟩=>wr) (fun⟨wr,i⟩=>(Ext w wr)∧(i≤36)∧(∀j,j<i→sgn j≠c)) (fun⟨wr,i⟩=>36-i) (⟨w,0⟩:a6×Nat) ⟨bN,(bX _),(fun j H=>absurd H (Nat.not_lt_zero _))⟩ J (aP J) ?_;rintro⟨wr,i⟩ ⟨o,hi,E⟩;refine aD (aD ?_);by_cases f:i<36
 ·refine aK 1 J (aH J (dV i 36 J) (aG (bC J (bB (aL (aD (bO (aD ?_))))))));by_cases F:([48,49,50,51,52,53,54,55,56,57,97,98,99,100,101,102,103,104,105,106,107,108,109,110,111,112,113,114,115,116,117,118,119,120,121,122]).getD i 0=c
  ·refine aK 1 J (fF (bs:= [48,49,50,51,52,53,54,55,56,57,97,98,99,100,101,102,103,104,105,106,107,108,109,110,111,112,113,114,115,116,117,118,119,120,121,122]) (i:=i) J J J Tryz.underlying9 yd (mv 1 J (aH J (gZ (([48,49,50,51,52,53,54,55,56,57,97,98,99,100,101,102,103,104,105,106,107,108,109,110,111,112,113,114,115,116,117,118,119,120,121,122]).getD i 0) c J) (aG (bC J (sr (aE 2 J (bA (gV (cI (oC ?_)))))))))));refine gV (cI (aZ [no i] J ⟨rfl,xl⟩ ?_));have G:dv c=i:=by rw [←F];exact (congrArg dv (uV f)).trans (P6 f)
   exact⟨_,rfl,(show eL .i64 ((i:Nat):Int)=_ by rw [G,if_pos f]),o⟩
  refine aK 1 J (fF (bs:= [48,49,50,51,52,53,54,55,56,57,97,98,99,100,101,102,103,104,105,106,107,108,109,110,111,112,113,114,115,116,117,118,119,120,121,122]) (i:=i) J J J Tryz.underlying9 yd (mv 1 J (aH J (hJ (([48,49,50,51,52,53,54,55,56,57,97,98,99,100,101,102,103,104,105,106,107,108,109,110,111,112,113,114,115,116,117,118,119,120,121,122]).getD i 0) c J) (aG (aT J (bB (bT (aL (aK 1 J (bD J (cK i 1 J) (mv 1 J ?_)))))))))));refine cF (cP (⟨wr,i+1⟩:a6×Nat) ⟨o,i9,(fun j H=>by by_cases h:j=i;(· subst h;rw [←uV f];exact F);(· exact E j i9))⟩ (show 36-(i+1)<36-i by omega) J (aP J))
 refine aK 1 J (aH J (dQ i 36 J) (aG (aT J (d9 (cY (d7 (d8 (aL (sr (aE 1 J (bA ?_)))))))))));refine aZ [no 99] J ⟨rfl,xl⟩ ?_;have G:¬dv c<36:=fun h=>E (dv c) i9 (JJ h i9);exact⟨_,rfl,(show eL .i64 (99:Int)=_ by rw [if_neg G]),o⟩
theorem WK (ho:Own w lb 3 1 A n c (ds.map I6))(hwf:Wfb 65536 ds)(hbl:2≤base)(hbu:base≤36)(hn:n≤1099511627776):aQ aM 155 #[up A n c,no base] w (fun e w'=>∃es:List Nat,e= .returned (no (nb 65536 ds%base:Nat))∧Own w' lb 3 1 A n c (es.map I6)∧es.length=n∧Wfb 65536 es∧nb 65536 es=nb 65536 ds/base∧UpdO A w w'):=by
 have aj:=rM ho;refine bU Tryz.func155 32 J (sr (aE 1 J (sr (aE 1 J (aD (aV 1 J (aA (no n) J (eC J J J (((n:Nat):Int)-1) (fS J) (mv 1 J ?_)))))))));refine aG (bO ?_);refine dC (T:=a6×Nat×Nat×List Nat) (fun⟨wr,j,rest,l⟩=> [(0,up A n c),(1,no base),(5,no rest),(6,no (((j:Nat):Int)-1))]) (fun⟨wr,j,rest,l⟩=>wr) (fun⟨wr,j,rest,l⟩=>(UpdO A w wr)∧(j≤n)∧(Own wr lb 3 1 A n c (l.map I6))∧(l.length=n)∧(Wfb 65536 l)∧(l.take j=ds.take j)∧(rest<base)∧(nb 65536 (ds.drop j)=base*nb 65536 (l.drop j)+rest)) (fun⟨wr,j,rest,l⟩=>j) (⟨w,n,0,ds⟩:a6×Nat×Nat×List Nat) ⟨(UpdO.refl A w),(aU _),ho,(rM ho),hwf,rfl,i9,(by rw [List.drop_of_length_le (by have:=rM ho;omega)];rfl)⟩ J (aP J) ?_;rintro⟨wr,j,rest,l⟩ ⟨I,hj,L,F,o,H,E,Y⟩;refine aD (aD ?_);by_cases U:0<j
 ·have M:((j:Nat):Int)-1=((j-1:Nat):Int):=by omega
  refine f9 [(0,up A n c),(1,no base),(5,no rest),(6,no (((j:Nat):Int)-1))] (aP J) ?_;rw [M];refine aK 1 J (aH J (i8 (j-1) 0 J) (aG (bC J (bB (aL (aD (bO (aD ?_))))))));have ak:=jK (b:=65536) o (j-1);refine aK 1 J (bD J (qP rest 65536 J) (mv 2 J ?_));obtain⟨p1,Z,ab⟩:=(L).at1 (i:=j-1) i9;refine cA rH qH (j-1) p1 Z J (bG (d5 C8 ab) J (bD J (cK (rest*65536) (l.getD (j-1) 0) J) (aE 1 J (aV 4 J (bD J (nD ((rest*65536)+(l.getD (j-1) 0)) base J) ?_)))));obtain⟨p2,G,_⟩:=(L).at1 (i:=j-1) i9;refine cA rH qH (j-1) p2 G J ?_;have aa:=L;refine I8 (f:=I6) (u:=((rest*65536)+(l.getD (j-1) 0))/base) (i:=j-1) J J J G aa i9 J J qH fun v4 X V=>?_;have W:UpdO A w v4:=I.trans V;refine aG (aK 2 J (bD J (kT ((rest*65536)+(l.getD (j-1) 0)) base J) (bS 1 J (bT (aL (aK 1 J (eC J J J (((j-1:Nat):Int)-1) (fS J) (bS 1 J (cP (⟨v4,j-1,(rest*65536+l.getD (j-1) 0)%base,l.set (j-1) (((rest*65536)+(l.getD (j-1) 0))/base)⟩:a6×Nat×Nat×List Nat) ⟨W,i9,X,(by rw [List.length_set];exact F),(jJ o _ (hx:=(YJ E (jK o _)))),(by rw [List.take_set_of_le (aU _)];have h:=congrArg (List.take (j-1)) H;rwa [List.take_take,List.take_take,iJ i9] at h),(g7 _ i9),(YI i9 U i9 i9 H Y)⟩ (show j-1<j by omega) J (aP J))))))))))
 refine aK 1 J (aH J (mJ) (aG (aT J (d9 (cY (d7 (d8 (aL (sr (aE 2 J (bA ?_)))))))))));refine aZ [no rest] J ⟨rfl,xl⟩ ?_;have hj:j=0:=by omega
 subst hj;rw [iN,iN] at Y;obtain⟨h1,h2⟩:=a2q i9 E Y;exact⟨l,(by rw [←h2];rfl),L,F,o,h1.symm,I⟩
theorem a0j (h:(wd m).length≤N):(db 65536 m).length≤4*N:=by
 refine lY iR ?_;have h1:=nZ m;refine dA h1 ?_;rw [uC,←Nat.pow_mul];exact fZ yd i9
theorem a0i (h:(wd m).length≤1048576):(db 65536 m).length≤4194304:=a0j h
theorem YY (hn:0<n)(h:l.getD (n-1) 0≠0):nb 65536 l≠0:=by
 have hl:n-1<l.length:=by
  refine pC fun f=>h ?_
  rw [bL,jT f];rfl
 rw [oV 65536 l (n-1),pF hl,nB];rw [bL,cT hl,nM] at h;have E:65536^(n-1)*1≤65536^(n-1)*(l[n-1]+65536*nb 65536 (l.drop (n-1+1))):=gT _ i9;have o:0<65536^(n-1):=Nat.pow_pos yd;omega
theorem WE (hl:hi.length=n)(hin:i<n)(h:∀j,j<i→hi.getD (n-1-j) 0=L.getD j 0):∀j,j<i+1→(hi.set (n-1-i) (L.getD i 0)).getD (n-1-j) 0=L.getD j 0:=by
 intro j _;by_cases e:j=i
 ·subst e;simp [bL,show n-1-j<hi.length by omega]
 have h1:=h j i9;rw [bL,List.getElem?_set_ne i9,←bL];exact h1
theorem WF (hl:hi.length=n)(hL:L.length=n)(h:∀j,j<n→hi.getD (n-1-j) 0=L.getD j 0):hi=L.reverse:=by
 refine List.ext_getElem (by rw [List.length_reverse];omega) fun k h1 h2=>?_;have f:=h (n-1-k) i9;rw [show n-1-(n-1-k)=k by omega,bL,cT h1,bL,cT i9] at f;rw [List.getElem_reverse];simp only [nM] at f;rw [f];congr 1;omega
theorem UY (h:∀d,d∈l→d<36):(l.map sgn).getD i 0≤255:=by
 by_cases hi:i<l.length
 ·rw [bL,jM,cT hi];have:=JI (h _ (oG hi));simp only [sM,nM];omega
 rw [bL,jT (by rw [List.length_map];omega)];exact bX _
theorem WL (hx:Wi w A an ac m)(hal:an≤1048576)(hbl:2≤base)(hbu:base≤36):aQ aM 134 #[up A an ac,no base] w (Gv w (T2 (Is (.string (aN (gE base m)))) (Is (no 0)))):=by
 have ae:(wd m).length≤1048576:=a8 hx.len hal;have ej:=vM hbl ae;refine bU Tryz.func134 72 J (sr (aE 2 J (aD (aV 1 J (aH J (dQ base 2 J) (mv 2 J (aH J (i7 base 36 J) (aA (wk) J (aG (aT J ?_))))))))));refine bB (aL (aV 1 J (bI [up A an ac] bN (a02 hx i9) J ?_)));rintro _ v1 ⟨A4,n4,c4,rfl,df,da⟩ _ f;refine aE 1 J (sr (aE 1 J (aD (bO ?_))));refine dC (T:=a6×List Nat×List Nat×Option a7×Nat×Nat×Option a7×Nat×Nat) (fun⟨wr,lds,l,DA,dn,dc,OA,on,oc⟩=> [(1,no base),(6,up DA dn dc),(7,up OA on oc)]) (fun⟨wr,lds,l,DA,dn,dc,OA,on,oc⟩=>wr) (fun⟨wr,lds,l,DA,dn,dc,OA,on,oc⟩=>(Ext w wr)∧(Own wr w.heap.size 5 1 OA on oc ((lds.map sgn).map B8))∧(Own wr w.heap.size 3 1 DA dn dc (l.map I6))∧(Wfb 65536 l)∧(dn=0∨l.getD (dn-1) 0≠0)∧(db base m=lds++db base (nb 65536 l))∧(dn≤1099511627776)) (fun⟨wr,lds,l,DA,dn,dc,OA,on,oc⟩=>nb 65536 l) (⟨v1,[],db 65536 m,A4,n4,c4,none,0,0⟩:a6×List Nat×List Nat×Option a7×Nat×Nat×Option a7×Nat×Nat) ⟨f,(Own.nil _ _ _ _),da,(lQ iR m),(by rw [←df];exact BX iR m),(by rw [iS iR];rfl),(by have:=a0i ae;omega)⟩ J (aP J) ?_;rintro⟨wr,lds,l,DA,dn,dc,OA,on,oc⟩ ⟨f,V,Z,cz,cp,aa,_⟩;refine fW [(1,no base),(6,up DA dn dc),(7,up OA on oc)] wr J (aP J) ?_;have dy:=rM Z;have bi:=rM V;rw [List.length_map] at bi;have du:lds.length≤(db base m).length:=by rw [aa,f8];omega
 refine aD (aD ?_);by_cases dw:dn>0
 ·have ai:nb 65536 l≠0:=YY i9 (cp.resolve_left i9);have aj:nb 65536 l%base<36:=dA (g7 _ i9) hbu;refine aK 1 J (aA (no dn) J (aH J (gB dn 0 J) (aG (bC J (bB (aL (bO (aV 2 J ?_))))))));have ao:=Z;refine dP [up DA dn dc,no base] (WK ao cz hbl hbu i9) J ?_;rintro _ _ ⟨o,rfl,dh,_,U,E,ab⟩;refine dO ?_;have X:=ab.ext f (fun p hp=>(ao.block p hp).1);refine aE 1 J (aV 2 J (fF (bs:= [48,49,50,51,52,53,54,55,56,57,97,98,99,100,101,102,103,104,105,106,107,108,109,110,111,112,113,114,115,116,117,118,119,120,121,122]) (i:=nb 65536 l%base) J J J Tryz.underlying9 yd (iF J J (k:=1) (e:=5) [.int .u8 ((([48,49,50,51,52,53,54,55,56,57,97,98,99,100,101,102,103,104,105,106,107,108,109,110,111,112,113,114,115,116,117,118,119,120,121,122]).getD (nb 65536 l%base) 0:Nat):Int)] ye fun _ _ nb=>?_)));have bo:=nb.bk;have ar:=nb.ext;clear nb;have bu:=X.trans ar;have Y:=((V.updOT ao yd ab).ext ar);refine nR J J J m8 vQ J Y bu.size [.int .u8 ((([48,49,50,51,52,53,54,55,56,57,97,98,99,100,101,102,103,104,105,106,107,108,109,110,111,112,113,114,115,116,117,118,119,120,121,122]).getD (nb 65536 l%base) 0:Nat):Int)] J (vC _ bo) J fun H G cj bj am _=>?_;have dt:=am.ext bu (fun p hp=>(Y.block p hp).1);have av:Own cj w.heap.size 5 1 H (on+1) G (((lds.map sgn)++ [([48,49,50,51,52,53,54,55,56,57,97,98,99,100,101,102,103,104,105,106,107,108,109,110,111,112,113,114,115,116,117,118,119,120,121,122]).getD (nb 65536 l%base) 0]).map B8):=by have h:=bj;simp only [List.map_append,jS,kR] at h⊢;exact h
  refine aE 1 J (bO ?_);refine dC (T:=a6×Nat) (fun⟨wr,k⟩=> [(1,no base),(6,up DA k dc),(7,up H (on+1) G)]) (fun⟨wr,k⟩=>wr) (fun⟨wr,k⟩=>(Ext w wr)∧(Own wr w.heap.size 5 1 H (on+1) G (((lds.map sgn)++ [([48,49,50,51,52,53,54,55,56,57,97,98,99,100,101,102,103,104,105,106,107,108,109,110,111,112,113,114,115,116,117,118,119,120,121,122]).getD (nb 65536 l%base) 0]).map B8))∧(Own wr w.heap.size 3 1 DA k dc ((o.take k).map I6))∧(k≤dn)∧(nb 65536 (o.take k)=nb 65536 o)) (fun⟨wr,k⟩=>k) (⟨cj,dn⟩:a6×Nat) ⟨dt,av,(by rw [List.take_of_length_le i9];exact ((dh.ext ar).updOT Y yd am)),(aU _),(by rw [List.take_of_length_le i9])⟩ J (aP J) ?_;rintro⟨wr,k⟩ ⟨f,V,Z,_,M⟩;refine fW [(1,no base),(6,up DA k dc),(7,up H (on+1) G)] wr J (aP J) (aD (aD ?_));by_cases dl:k>0
  ·by_cases cm:(o.take k).getD (k-1) 0=0
   ·refine aK 1 J (aA (no k) J (aH J (gB k 0 J) (mv 3 J (aA (no k) J (bD J (iU k 1 J) ?_)))));obtain⟨de,az,bd⟩:=(Z).at1 (i:=k-1) i9;refine cA rH qH (k-1) de az J (bG (d5 C8 bd) J (aH J (gZ ((o.take k).getD (k-1) 0) 0 J) (aA (we) J (aG (bC J (bB (aL (bO (aK 2 J (aA (no k) J (bD J (iU k 1 J) (mS J J rH qH (lo:=0) (hi:=k-1) J J i9 (by have:=(Z).rv.le;omega) (v:= up DA (k-1) dc) (zW _ _ _) yd ?_))))))))))));refine bS 1 J (bT (cP (⟨wr,k-1⟩:a6×Nat) ⟨f,V,(by have h:=(Z.take1 (k:=k-1) i9);rwa [List.take_take,iJ i9] at h),i9,(by have h:=B3 65536 o (k-1) i9 (by have h:=cm;rwa [BF i9] at h);rw [Nat.sub_add_cancel dl] at h;rw [←h];exact M)⟩ (show k-1<k by omega) J (aP J)))
   refine aK 1 J (aA (no k) J (aH J (gB k 0 J) (mv 3 J (aA (no k) J (bD J (iU k 1 J) ?_)))));obtain⟨dr,ba,bp⟩:=(Z).at1 (i:=k-1) i9;refine cA rH qH (k-1) dr ba J (bG (d5 C8 bp) J (aH J (hJ ((o.take k).getD (k-1) 0) 0 J) (aA (wk) J (aG (aT J (d9 (cY (d7 (d8 (bT (cP (⟨wr,lds++ [nb 65536 l%base],o.take k,DA,k,dc,H,on+1,G⟩:a6×List Nat×List Nat×Option a7×Nat×Nat×Option a7×Nat×Nat) ⟨f,(by rw [List.map_append,jS,kR,←uV aj];exact V),Z,(lH U _),(cN cm),(by rw [aa,List.append_assoc,M,E,nG hbl ai];rfl),i9⟩ (show nb 65536 (o.take k)<nb 65536 l by rw [M,E];exact m0 i9 i9) J (aP J))))))))))))
  refine aK 1 J (aA (no k) J (aH J (i7 k 0 J) (mv 8 J (aA (wk) J (aG (aT J (d9 (cY (d7 (d8 (bT (cP (⟨wr,lds++ [nb 65536 l%base],o.take k,DA,k,dc,H,on+1,G⟩:a6×List Nat×List Nat×Option a7×Nat×Nat×Option a7×Nat×Nat) ⟨f,(by rw [List.map_append,jS,kR,←uV aj];exact V),Z,(lH U _),(cJ i9),(by rw [aa,List.append_assoc,M,E,nG hbl ai];rfl),i9⟩ (show nb 65536 (o.take k)<nb 65536 l by rw [M,E];exact m0 i9 i9) J (aP J)))))))))))))
 have cv:l= []:=uK.1 i9;have F:db base m=lds:=by rw [aa,cv];show lds++db base 0=lds;rw [lC,m7]
 refine aK 1 J (aA (no dn) J (aH J (i7 dn 0 J) (aG (aT J (d9 (cY (d7 (d8 (aL (aD (aD ?_)))))))))));by_cases ci:on=0
 ·refine aK 1 J (aA (no on) J (aH J (gZ on 0 J) (aG (bC J (sr (aE 2 J (bA (cI (aZ [.string (aN ([48])),I0] J ⟨rfl,rfl,xl⟩ ?_)))))))));have aq:m=0:=by rw [←G1 hbl,F];exact uK.1 i9
  have W:([48]:List Nat)=gE base m:=by subst aq;rfl
  exact⟨_,rfl,⟨_,_,rfl,(show Value.string _=Value.string _ from congrArg (fun l=>Value.string (aN l)) W),rfl⟩,f⟩
 refine aK 1 J (aA (no on) J (aH J (hJ on 0 J) (aG (aT J (bB (aL (aV 1 J (aA (no on) J (mT J (k:=on) J J J m8 vQ J fun L dm ah ak bm=>?_)))))))));rw [WH] at ak;have bw:w.heap.size≤L:=by rw [←ah];exact f.size
 have bh:∀p,OA=some p→p.block≠L:=fun p hp=>by have:=((V).block p hp).2;omega
 clear ah;have X:=f.trans bm;refine aE 1 J (aD (sr (aE 1 J (bO ?_))));refine dC (T:=a6×Nat×List Nat) (fun⟨wr,i,hi⟩=> [(7,up OA on oc),(9,up (some ⟨L,0,none⟩) on on),(10,no i)]) (fun⟨wr,i,hi⟩=>wr) (fun⟨wr,i,hi⟩=>(Ext w wr)∧(Own wr w.heap.size 5 1 OA on oc ((lds.map sgn).map B8))∧(Bk wr L 5 (hi.map B8))∧(hi.length=on)∧(i≤on)∧(∀j,j<i→hi.getD (on-1-j) 0=(lds.map sgn).getD j 0)) (fun⟨wr,i,hi⟩=>on-i) (⟨dm,0,_⟩:a6×Nat×List Nat) ⟨X,(V.ext bm),ak,(List.length_replicate (n:=on) (a:=0)),(bX _),(fun j hj=>absurd hj (Nat.not_lt_zero _))⟩ J (aP J) ?_;rintro⟨wr,i,hi⟩ ⟨f,V,hb,I,_,ag⟩;refine fW [(7,up OA on oc),(9,up (some ⟨L,0,none⟩) on on),(10,no i)] wr J (aP J) (aD (aD ?_));by_cases eg:i<on
 ·refine aK 2 J (aA (no on) J (aH J (dV i on J) (aG (bC J (bB (aL (aD (bO ?_))))))));have eh:(lds.map sgn).getD i 0≤255:=UY (fun d hd=>by have:=lQ hbl m d (by rw [F];exact hd);omega);refine aK 2 J (aA (no on) J (bD J (iU on 1 J) (mv 1 J (bD J (iU (on-1) i J) (mv 2 J ?_)))));obtain⟨dg,br,au⟩:=(V).at1 (i:=i) i9;refine cA m8 m9 i dg br J (bG (d5 GJ au) J (cA m8 m9 ((on-1)-i) ⟨L,(on-1)-i,none⟩ (eG _ _) J ?_));have aw:=hb;refine i0 J J J m9 J aw (iQ (by rw [I];omega)) J ((hi.set ((on-1)-i) ((lds.map sgn).getD i 0)).map B8) (EX _ _ _) fun ct bf bg _=>?_;have X:=bg.ext f bw;refine cF (bT (aL (aK 1 J (bD J (cK i 1 J) (bS 1 J (cP (⟨ct,i+1,hi.set ((on-1)-i) ((lds.map sgn).getD i 0)⟩:a6×Nat×List Nat) ⟨X,(V.upd bg bh),bf,(jQ (l:=hi) (I)),i9,(WE I i9 ag)⟩ (show on-(i+1)<on-i by omega) J (aP J)))))))
 refine aK 2 J (aA (no on) J (aH J (dQ i on J) (aG (aT J (d9 (cY (d7 (d8 (aL (aV 1 J (zG (bs:=hi) (lb:=0) J J (Own.mk_ (bX _) hb (aU _) (by rw [eV];omega) (by rw [List.length_map,I,eH]) (by rw [eH,List.take_of_length_le (by rw [List.length_map,I];exact aU _)])) ?_)))))))))));refine aE 2 J (bA (aZ [.string (aN hi),I0] J ⟨rfl,rfl,xl⟩ ?_));have aq:m≠0:=fun e=>ci (by have h:=F;rw [e,lC] at h;rw [←bi,←h];rfl);have W:hi=gE base m:=by rw [gE,if_neg aq,eT,F,List.map_reverse];exact WF I (by rw [List.length_map];omega) (fun j hj=>ag j i9)
 exact⟨_,rfl,⟨_,_,rfl,(show Value.string _=Value.string _ from congrArg (fun l=>Value.string (aN l)) W),rfl⟩,f⟩
theorem WQ (hx:Wi w A an ac m)(hal:an≤1048576):aQ aM 104 #[up A an ac] w (Gv w (Is (.string (aN (gE 10 m))))):=by
 refine bU Tryz.func104 11 J (sr (aE 1 J (aV 1 J (bI [up A an ac,no 10] bN (WL hx hal yd yd) J ?_))));rintro _ _ ⟨_,_,rfl,rfl,rfl⟩ _ f;refine mv 1 J (aA (.string (aN (gE 10 m))) J (aA (no 0) J (aE 2 J (sr (aE 2 J (bA (aZ [.string (aN (gE 10 m))] J ⟨rfl,xl⟩ ?_)))))));exact⟨_,rfl,rfl,f⟩
theorem KG {v:Nat}(ho:Own w lb 3 1 A n c (ds.map I6))(hlb:lb≤w.heap.size)(hwf:Wfb 65536 ds)(hbl:2≤base)(hbu:base≤36)(hn:n≤1099511627775)(hvb:v≤36):aQ aM 157 #[up A n c,no base,no v] w (fun e w'=>∃A' n' c',∃es:List Nat,e= .returned (up A' n' c')∧Own w' lb 3 1 A' n' c' (es.map I6)∧n'≤n+1∧es.length=n'∧Wfb 65536 es∧nb 65536 es=nb 65536 ds*base+v∧UpdO A w w'):=by
 have ah:=rM ho;refine bU Tryz.func157 37 J (sr (aE 1 J (aD (sr (aE 1 J (bO ?_))))));refine dC (T:=a6×Nat×Nat×List Nat) (fun⟨wr,i,cy,l⟩=> [(0,up A n c),(1,no base),(2,no cy),(7,no i)]) (fun⟨wr,i,cy,l⟩=>wr) (fun⟨wr,i,cy,l⟩=>(UpdO A w wr)∧(i≤n)∧(Own wr lb 3 1 A n c (l.map I6))∧(l.length=n)∧(Wfb 65536 l)∧(l.drop i=ds.drop i)∧(cy≤36)∧(nb 65536 (l.take i)+65536^i*cy=nb 65536 (ds.take i)*base+v)) (fun⟨wr,i,cy,l⟩=>n-i) (⟨w,0,v,ds⟩:a6×Nat×Nat×List Nat) ⟨(UpdO.refl A w),(bX _),ho,ah,hwf,rfl,i9,(by rw [List.take_zero];simp [nb])⟩ J (aP J) ?_;rintro⟨wr,i,cy,l⟩ ⟨I,hi,V,o,E,ab,_,Y⟩;refine aD (aD ?_);by_cases ba:i<n
 ·refine aK 2 J (aA (no n) J (aH J (dV i n J) (aG (bC J (bB (aL (aD (bO (aD ?_)))))))));have av:=jK (b:=65536) E i;have aw:l.getD i 0*base≤65535*36:=kP i9 hbu;refine aK 2 J ?_;obtain⟨p2,ak,ag⟩:=(V).at1 (i:=i) i9;refine cA rH qH i p2 ak J (bG (d5 C8 ag) J (mv 1 J (bD J (qP (l.getD i 0) base J) (mv 1 J (bD J (cK ((l.getD i 0)*base) cy J) (aE 1 J (aV 3 J (bD J (kT (((l.getD i 0)*base)+cy) 65536 J) ?_))))))));obtain⟨p3,W,_⟩:=(V).at1 (i:=i) i9;refine cA rH qH i p3 W J ?_;have ae:=V;refine I8 (f:=I6) (u:=(((l.getD i 0)*base)+cy)%65536) (i:=i) J J J W ae i9 J J qH fun v5 ao ai=>?_;have F:UpdO A w v5:=I.trans ai;refine aG (aK 1 J (bD J (nD (((l.getD i 0)*base)+cy) 65536 J) (bS 1 J (bT (aL (aK 1 J (bD J (cK i 1 J) (bS 1 J (cP (⟨v5,i+1,(l.getD i 0*base+cy)/65536,l.set i ((((l.getD i 0)*base)+cy)%65536)⟩:a6×Nat×Nat×List Nat) ⟨F,i9,ao,(by rw [List.length_set];exact o),(jJ E _ (hx:=(g7 _ yd))),(by rw [List.drop_set_of_lt i9];have h:=congrArg (List.drop 1) ab;rwa [List.drop_drop,List.drop_drop] at h),i9,(YO i9 i9 ab Y)⟩ (show n-(i+1)<n-i by omega) J (aP J))))))))))
 have am:i=n:=by omega
 rw [List.take_of_length_le i9,List.take_of_length_le i9,am] at Y;refine aK 2 J (aA (no n) J (aH J (dQ i n J) (aG (aT J (d9 (cY (d7 (d8 (aL (aD (aD ?_)))))))))));by_cases aq:cy>0
 ·refine aK 1 J (aH J (gB cy 0 J) (aG (bC J (aK 2 J (iF J J (k:=1) (e:=3) [no cy] ye fun _ v9 nb=>?_)))));have L:=nb.bk;have aa:=nb.ext;clear nb;have F:UpdO A w v9:=I.then_ext aa;refine nR J J J rH tO J (V.ext aa) (a8 hlb F.size) [no cy] J (vC _ L) J fun G H Z M U _=>?_;have aj:UpdO A w Z:=F.trans U;have X:Own Z lb 3 1 G (n+1) H ((l++ [cy]).map I6):=by have h:=M;simp only [List.map_append,jS,kR] at h⊢;exact h
  refine aE 1 J (sr (aE 2 J (bA (aZ [up G (n+1) H] J ⟨rfl,xl⟩ ?_))));exact⟨G,(n+1),H,l++ [cy],rfl,X,(aU _),(by rw [f8,o];rfl),(CC E (fun x hx=>by rw [rB] at hx;omega)),(by rw [EQ,o];exact Y),aj⟩
 refine aK 1 J (aH J (i7 cy 0 J) (aG (aT J (bB (aL (sr (aE 2 J (bA (aZ [up A n c] J ⟨rfl,xl⟩ ?_)))))))));exact⟨A,n,c,l,rfl,V,(Nat.le_succ _),o,E,(by rw [show cy=0 by omega,iV,fN] at Y;exact Y),I⟩
theorem a1m (hb:b≤w.heap.size)(h:Own w lb 3 1 A n c (ds.map I6))(hw:Wfb 65536 ds)(hl:n≤1099511627775):aQ aM 132 #[up A n c] w (Gv w (WR b (nb 65536 ds))):=(AM ⟨h.rv,hw⟩ hl).mono (gw hb)
theorem KE (hc:c≤255)(h:dv c<36):aQ aM 156 #[.int .u8 ((c:Nat):Int)] w (Gv w (Is (no (dv c:Nat)))):=by
 have h1:=KF (w:=w) hc;rw [if_pos h] at h1;exact h1
theorem WM (hbs:∀b,b∈bs→b<256)(hlen:bs.length≤17179869184)(hbl:2≤base)(hbu:base≤36)(hg:fH base bs):aQ aM 135 #[.string (aN bs),no base] w (Gv w (T2 (WR w.heap.size (cZ base (bs.map dv))) (Is (no 0)))):=by
 refine bU Tryz.func135 36 J (sr (aE 2 J (aD (aV 1 J (aH J (dQ base 2 J) (mv 2 J (aH J (i7 base 36 J) (aA (wk) J (aG (aT J ?_))))))))));refine bB (aL (aD (aD ?_)));have ak:=hg.1;refine aK 1 J (pK (a:=bs) (b:= []) J J J hbs false (uU (ak)) (aG (aT J (bB (aL (sr (aE 1 J (aD (sr (bS 1 J ?_))))))))));refine aL (bO ?_);refine dC (T:=a6×Nat×List Nat×Option a7×Nat×Nat) (fun⟨wr,i,l,DA,dn,dc⟩=> [(0,.string (aN bs)),(1,no base),(6,up DA dn dc),(7,no i)]) (fun⟨wr,i,l,DA,dn,dc⟩=>wr) (fun⟨wr,i,l,DA,dn,dc⟩=>(Ext w wr)∧(i≤bs.length)∧(Own wr w.heap.size 3 1 DA dn dc (l.map I6))∧(dn≤i)∧(Wfb 65536 l)∧(nb 65536 l=cZ base ((bs.take i).map dv))∧(∀c,c∈bs.take i→dv c<base)) (fun⟨wr,i,l,DA,dn,dc⟩=>bs.length-i) (⟨w,0,[],none,0,0⟩:a6×Nat×List Nat×Option a7×Nat×Nat) ⟨bN,(bX _),(Own.nil _ _ _ _),(bX _),(GK _),rfl,(fun c hc=>absurd hc ym)⟩ J (aP J) ?_;rintro⟨wr,i,l,DA,dn,dc⟩ ⟨F,hi,hD,_,L,hv,U⟩;refine aD (aD ?_);by_cases f:i<bs.length
 ·refine aK 2 J (eQ J J (v:= no ((aN bs).size:Nat)) (v':= no (bs.length:Nat)) (by rw [eJ]) (aH J (dV i bs.length J) (aG (bC J (bB (aL (aD (bO (aD ?_)))))))));have E:bs.getD i 0≤255:=by have:=hbs _ (BG f);omega
  have W:=hg.2 _ (BG f);refine aK 2 J (fF (bs:=bs) (i:=i) J J J Tryz.underlying9 hbs (bI [.int .u8 ((bs.getD i 0:Nat):Int)] F (KE E (dA W hbu)) J ?_));rintro _ _ rfl e3 o;refine aE 1 J (aD (aV 2 J (aH J (nE (dv (bs.getD i 0)) base J) (aG (aT J (bB (aL (aK 3 J ?_))))))));have V:=(hD.ext e3);refine dP [up DA dn dc,no base,no (dv (bs.getD i 0):Nat)] (KG V o.size L hbl hbu i9 i9) J ?_;rintro _ v6 ⟨A8,n9,aj,ai,rfl,I,_,_,G,H,M⟩;refine dO ?_;have ag:=M.ext o (fun p hp=>(V.block p hp).1);refine bS 1 rfl (bT (aL (aK 1 rfl (bD rfl (cK i 1 rfl) (bS 1 rfl (cP (⟨v6,i+1,ai,A8,n9,aj⟩:a6×Nat×List Nat×Option a7×Nat×Nat) ⟨ag,i9,I,i9,G,(by rw [H,hv,zP f,List.map_append,jS,kR,zK]),(fun c hc=>by rw [zP f] at hc;rcases m5.1 hc with h | h;(· exact U c h);(· rw [rB.1 h];exact W))⟩ (show bs.length-(i+1)<bs.length-i by omega) rfl (aP rfl)))))))
 have ab:i=bs.length:=by omega
 rw [ab,List.take_length] at U hv;refine aK 2 J (eQ J J (v:= no ((aN bs).size:Nat)) (v':= no (bs.length:Nat)) (by rw [eJ]) (aH J (dQ i bs.length J) (aG (aT J (d9 (cY (d7 (d8 (aL (aV 1 J (dP [up DA dn dc] (by have h:=a1m F.size hD L i9;rw [hv] at h;exact h) J ?_)))))))))));rintro _ _ ⟨_,rfl,ah,aa⟩;refine dO ?_;have o:=F.trans aa;obtain⟨am,X,ao,rfl,Z,Y⟩:=ah;refine aE 2 J (bA (aZ [up am X ao,I0] J ⟨rfl,rfl,xl⟩ ?_));exact⟨_,rfl,⟨_,_,rfl,⟨_,_,_,rfl,Z,Y⟩,rfl⟩,o⟩
theorem WN (hbs:∀b,b∈bs→b<256)(hlen:bs.length≤17179869184)(hbl:2≤base)(hbu:base≤36)(hg:¬fH base bs):aQ aM 135 #[.string (aN bs),no base] w (Gv w (T2 (Is (up none 0 0)) (Is (no 7)))):=by
 refine bU Tryz.func135 36 J (sr (aE 2 J (aD (aV 1 J (aH J (dQ base 2 J) (mv 2 J (aH J (i7 base 36 J) (aA (wk) J (aG (aT J ?_))))))))));refine bB (aL (aD (aD ?_)));by_cases G:bs= []
 ·refine aK 1 J (pK (a:=bs) (b:= []) J J J hbs true (zS (G)) (aG (bC J (sr (aE 2 J (bA (cI (aZ [S0,no 7] J ⟨rfl,rfl,xl⟩ ?_))))))));exact⟨_,rfl,⟨_,_,rfl,rfl,rfl⟩,bN⟩
 refine aK 1 J (pK (a:=bs) (b:= []) J J J hbs false (uU (G)) (aG (aT J (bB (aL (sr (aE 1 J (aD (sr (bS 1 J ?_))))))))));refine aL (bO ?_);refine dC (T:=a6×Nat×List Nat×Option a7×Nat×Nat) (fun⟨wr,i,l,DA,dn,dc⟩=> [(0,.string (aN bs)),(1,no base),(6,up DA dn dc),(7,no i)]) (fun⟨wr,i,l,DA,dn,dc⟩=>wr) (fun⟨wr,i,l,DA,dn,dc⟩=>(Ext w wr)∧(i≤bs.length)∧(Own wr w.heap.size 3 1 DA dn dc (l.map I6))∧(dn≤i)∧(Wfb 65536 l)∧(nb 65536 l=cZ base ((bs.take i).map dv))∧(∀c,c∈bs.take i→dv c<base)) (fun⟨wr,i,l,DA,dn,dc⟩=>bs.length-i) (⟨w,0,[],none,0,0⟩:a6×Nat×List Nat×Option a7×Nat×Nat) ⟨bN,(bX _),(Own.nil _ _ _ _),(bX _),(GK _),rfl,(fun c hc=>absurd hc ym)⟩ J (aP J) ?_;rintro⟨wr,i,l,DA,dn,dc⟩ ⟨W,hi,hD,_,Y,hv,F⟩;refine aD (aD ?_);by_cases E:i<bs.length
 ·refine aK 2 J (eQ J J (v:= no ((aN bs).size:Nat)) (v':= no (bs.length:Nat)) (by rw [eJ]) (aH J (dV i bs.length J) (aG (bC J (bB (aL (aD (bO (aD ?_)))))))));have f:bs.getD i 0≤255:=by have:=hbs _ (BG E);omega
  by_cases V:dv (bs.getD i 0)<base
  ·refine aK 2 J (fF (bs:=bs) (i:=i) J J J Tryz.underlying9 hbs (bI [.int .u8 ((bs.getD i 0:Nat):Int)] W (KE f (dA V hbu)) J ?_));rintro _ _ rfl e3 o;refine aE 1 J (aD (aV 2 J (aH J (nE (dv (bs.getD i 0)) base J) (aG (aT J (bB (aL (aK 3 J ?_))))))));have U:=(hD.ext e3);refine dP [up DA dn dc,no base,no (dv (bs.getD i 0):Nat)] (KG U o.size Y hbl hbu i9 i9) J ?_;rintro _ v6 ⟨A8,n9,ab,aa,rfl,L,_,_,H,I,M⟩;refine dO ?_;have Z:=M.ext o (fun p hp=>(U.block p hp).1);refine bS 1 rfl (bT (aL (aK 1 rfl (bD rfl (cK i 1 rfl) (bS 1 rfl (cP (⟨v6,i+1,aa,A8,n9,ab⟩:a6×Nat×List Nat×Option a7×Nat×Nat) ⟨Z,i9,L,i9,H,(by rw [I,hv,zP E,List.map_append,jS,kR,zK]),(fun c hc=>by rw [zP E] at hc;rcases m5.1 hc with h | h;(· exact F c h);(· rw [rB.1 h];exact V))⟩ (show bs.length-(i+1)<bs.length-i by omega) rfl (aP rfl)))))))
  refine aK 2 J (fF (bs:=bs) (i:=i) J J J Tryz.underlying9 hbs (bI [.int .u8 ((bs.getD i 0:Nat):Int)] W (KF f) J ?_));rintro _ _ rfl _ o;refine aE 1 J (aD (aV 2 J (aH J (tR (h:=(by split <;> omega))) (aG (bC J (sr (aE 2 J (bA (cI (gV ?_))))))))));refine cI (oC (gV (cI (aZ [S0,no 7] J ⟨rfl,rfl,xl⟩ ?_))));exact⟨_,rfl,⟨_,_,rfl,rfl,rfl⟩,o⟩
 have X:i=bs.length:=by omega
 rw [X,List.take_length] at F hv;exact absurd ⟨G,F⟩ hg
theorem WO (hbs:∀b,b∈bs→b<256)(hlen:bs.length≤17179869184)(hg:fH 10 bs):aQ aM 105 #[.string (aN bs)] w (Gv w (T2 (WR w.heap.size (cZ 10 (bs.map dv))) (Is (no 0)))):=by
 refine bU Tryz.func105 8 J (sr (aE 2 J (aV 1 J (bI [.string (aN bs),no 10] bN (WM hbs hlen yd yd hg) J ?_))));rintro _ _ ⟨_,_,rfl,⟨E,o,h,rfl,F,G⟩,rfl⟩ _ f;refine aA (up E o h) J (aA (no 0) J (aE 2 J (bA (aZ [up E o h,I0] J ⟨rfl,rfl,xl⟩ ?_))));exact⟨_,rfl,⟨_,_,rfl,⟨_,_,_,rfl,F,G⟩,rfl⟩,f⟩
theorem WP (hbs:∀b,b∈bs→b<256)(hlen:bs.length≤17179869184)(hg:¬fH 10 bs):aQ aM 105 #[.string (aN bs)] w (Gv w (T2 (Is (up none 0 0)) (Is (no 7)))):=by
 refine bU Tryz.func105 8 J (sr (aE 2 J (aV 1 J (bI [.string (aN bs),no 10] bN (WN hbs hlen yd yd hg) J ?_))));rintro _ _ ⟨_,_,rfl,rfl,rfl⟩ _ f;refine aA (up none 0 0) J (aA (no 7) J (aE 2 J (bA (aZ [S0,no 7] J ⟨rfl,rfl,xl⟩ ?_))));exact⟨_,rfl,⟨_,_,rfl,rfl,rfl⟩,f⟩
theorem a06 (hx:Zi w sa Aa na ca x)(la:na≤1048576):aQ aM 66 #[O sa Aa na ca] w (Gv w (Is (.string (aN (iX x))))):=by
 have Lx:=bP hx la;refine bU Tryz.func66 13 J (sr (bx (a5 sa Aa na ca) bN J J J fun H _ h _ _ F=>(aE 1 J (sr (pf H 1 J (bG (cE dY h J) J (bI [up Aa na ca] F (WQ (hx.ext F).wi i9) J ?_)))))));rintro _ _ rfl G f;refine aE 1 J (aD (aD ?_));by_cases E:x<0
 ·refine bH (lo aB (h.ext G) (a5 sa Aa na ca) J J J (aX f (gR (hx.ext f) (aJ la J)) J ?_));rintro _ _ rfl _ o;refine aH J (tB E) (aG (bC J (aV 1 J (pL J J J (r:= .string (aN (([45])++(gE 10 (Int.natAbs x))))) J (fun w=>uT (a:= [45]) (b:=gE 10 (Int.natAbs x)) (by have:=DH (b:=10) (show (wd (Int.natAbs x)).length≤1048576 from Lx);show 1+_≤_;omega)) (aE 1 J (bA (cI (aZ [.string (aN (([45])++(gE 10 (Int.natAbs x))))] J ⟨rfl,xl⟩ ?_))))))));exact⟨_,rfl,(show Value.string _= .string (aN (iX x)) by rw [iX,if_pos E]),o⟩
 refine bH (lo aB (h.ext G) (a5 sa Aa na ca) J J J (aX f (gR (hx.ext f) (aJ la J)) J ?_));rintro _ _ rfl _ o;refine aH J (tC) (aG (aT J (bB (aL (sr (aE 2 J (bA (aZ [.string (aN (gE 10 (Int.natAbs x)))] J ⟨rfl,xl⟩ ?_))))))));exact⟨_,rfl,(show Value.string _= .string (aN (iX x)) by rw [iX,if_neg E]),o⟩
theorem AP (hb:b≤w.heap.size)(hlow:Low p q x y)(hx:Zi w s A n cap x)(hl:n≤1073741824)(hy:Zi w t B m cap' y)(hl':m≤1073741824):aQ aM 18 #[O s A n cap,O t B m cap'] w (Gv w (T2 (FR b p q) (Is (no 0)))):=by
 obtain⟨h0,h1,h2⟩:=F2 hlow;have h:=rL hb hx hl hy hl';rw [←h1,←h2,oT h0] at h;exact h
theorem EC (hb:b≤w.heap.size)(h0:y=0)(hx:Zi w s A n cap x)(hl:n≤1073741824)(hy:Zi w t B m cap' y)(hl':m≤1073741824):aQ aM 18 #[O s A n cap,O t B m cap'] w (Gv w (T2 (FR b 0 0) (Is (no 4)))):=by
 have h:=rL hb hx hl hy hl';rw [EK h0,LW h0,qK h0] at h;exact h
theorem L5 {t:List Nat}(ht:t=iX x)(hx:Zi w s A n c x)(la:n≤1048576):aQ aM 66 #[O s A n c] w (Gv w (Is (.string (aN t)))):=by subst ht;exact a06 hx la
def jX (p q:Int):Int:=if 0<bM (rF p q+rF p q) q∨(bM (rF p q+rF p q) q=0∧qF p q%2≠0) then qF p q+1 else qF p q
theorem lN (hq:0<q)(h:ln p≤N):ln (qF p q)≤N:=by
 refine a8 (fR ?_) h;have hs:=FO (x:=p) (y:=q);have h1:=hs.eq;have h2:=hs.pos hq;generalize qF p q=f at*;generalize rF p q=r at*;rcases Int.lt_or_le f 0 with hf | hf
 ·have o:(f+1)*q≤(f+1)*1:=Int.mul_le_mul_of_nonpos_left i9 i9;rw [Int.add_mul,Int.one_mul] at o;omega
 have:f*1≤f*q:=Int.mul_le_mul_of_nonneg_left i9 hf;omega
theorem o8 (hq:0<q)(h:ln q≤N):ln (rF p q)≤N:=by
 refine a8 (fR ?_) h;have h2:=(FO (x:=p) (y:=q)).pos hq;omega
theorem XO {nd:Nat}(hx:Zi w sa Aa na ca x)(la:na≤1048576)(hy:Zi w sd Ad nd cd y)(ld:nd≤1048576):aQ aM 24 #[a9 sa Aa na ca sd Ad nd cd] w (Gv w (T2 (ZR w.heap.size (qF x y)) (Is (no (eZ y))))):=by
 have Lx:=bP hx la;have Ly:=bP hy ld;refine bU Tryz.func24 18 J (sr (bx [.bool sa,up Aa na ca,.bool sd,up Ad nd cd] bN J J J fun g1 _ V _ _ bd=>(bV [F0,S0] bd V.lt J fun _ _ ae aj _ e8 F=>(aE 1 J (sr (pf g1 0 J (lo aB (V.ext e8) (a5 sa Aa na ca) J J J (pf g1 2 J (lo aB (V.ext e8) (a5 sd Ad nd cd) J J J (aX F (F6 F.size (hx.ext F) (aJ la J) (hy.ext F) (aJ ld J)) J ?_))))))))));rintro _ _ ⟨_,_,_,rfl,⟨o,h,f,E,rfl,av⟩,⟨am,ag,ak,ai,rfl,_⟩,rfl⟩ Z au;refine mv 1 J (aA (O o h f E) J (aA (O am ag ak ai) J (aA (no (eZ y)) J (bV [F0,S0] au (ae.ext Z).lt J fun _ _ L X _ ah ba=>(bV [F0,S0] ba L.lt J fun _ _ ao aa _ U az=>?_)))));have H:=(L.ext U);refine so aB H (a5 o h f E) az X J J J J fun _ ab M aq=>?_;have I:=(ao.vN M);refine so aB I (a5 am ag ak ai) aq aa J J J J fun _ _ W bf=>(aE 1 J (sr (lo aB (ab.vN W) (a5 o h f E) J J J (mv 1 J ?_))));have G:=(((ae.ext (Z.t (ah.t U))).vN M).vN W);refine so aB G (a5 o h f E) bf aj J J J J fun _ Y aw ar=>(aE 1 J (bA (aZ [O o h f E,no (eZ y)] J ⟨⟨_,rfl,bK aB Y (a5 o h f E) J (bq J) rfl⟩,rfl,xl⟩ ?_)));exact⟨_,rfl,⟨_,_,rfl,⟨_,_,_,_,rfl,((((av.ext (ah.t U)).updT H M).updT I W).updT G aw)⟩,rfl⟩,ar⟩
theorem XI {nd:Nat}(hx:Zi w sa Aa na ca x)(la:na≤1048576)(hy:Zi w sd Ad nd cd y)(ld:nd≤1048576)(h0:y=0):aQ aM 26 #[a9 sa Aa na ca sd Ad nd cd] w (Gv w (T2 (Is (.string (aN []))) (Is (no 4)))):=by
 have Lx:=bP hx la;have Ly:=bP hy ld;refine bU Tryz.func26 33 J (sr (bx [.bool sa,up Aa na ca,.bool sd,up Ad nd cd] bN J J J fun Z _ h _ _ f=>(aE 2 J (sr (pf Z 0 J (lo aB h (a5 sa Aa na ca) J J J (pf Z 2 J (lo aB h (a5 sd Ad nd cd) J J J (aX f (EC f.size h0 (hx.ext f) (aJ la J) (hy.ext f) (aJ ld J)) J ?_)))))))));rintro _ _ ⟨_,_,rfl,⟨G,U,L,H,I,V,F,E,rfl,_,_⟩,rfl⟩ e7 W;refine mv 1 J (aA (a9 G U L H I V F E) J (aA (no 4) J (bV [F0,S0,F0,S0] W (h.ext e7).lt J fun _ _ M o _ _ X=>(so bJ M [.bool G,up U L H,.bool I,up V F E] X o J J J J fun _ _ _ Y=>(aE 1 J (aD (aV 1 J (fP J J J true (aG (bC J (aD ?_)))))))))));refine bH (aE 3 J (bA (cI (aZ [.string (aN ([])),no 4] J ⟨rfl,rfl,xl⟩ ?_))));exact⟨_,rfl,⟨_,_,rfl,rfl,rfl⟩,Y⟩
theorem XJ {nd:Nat}(hx:Zi w sa Aa na ca x)(la:na≤1048576)(hy:Zi w sd Ad nd cd y)(ld:nd≤1048576)(hlow:Low p q x y):aQ aM 26 #[a9 sa Aa na ca sd Ad nd cd] w (Gv w (T2 (Is (.string (aN (mW p q)))) (Is (no 0)))):=by
 have Lx:=bP hx la;have Ly:=bP hy ld;have Lp:ln p≤1048576:=a8 (fR hlow.np) Lx;have Lq:ln q≤1048576:=a8 (fR hlow.nq) Ly;have da:=hlow.pos;obtain⟨sp,ab⟩:∃t,t=iX p:=⟨_,rfl⟩;obtain⟨sq,am⟩:∃t,t=iX q:=⟨_,rfl⟩;have cv:sp.length≤67108866:=ab▸zO Lp;have ct:sq.length≤67108866:=am▸zO Lq;refine bU Tryz.func26 33 J (sr (bx [.bool sa,up Aa na ca,.bool sd,up Ad nd cd] bN J J J fun g1 _ ao _ _ ae=>(aE 2 J (sr (pf g1 0 J (lo aB ao (a5 sa Aa na ca) J J J (pf g1 2 J (lo aB ao (a5 sd Ad nd cd) J J J (aX ae (AP ae.size hlow (hx.ext ae) (aJ la J) (hy.ext ae) (aJ ld J)) J ?_)))))))));rintro _ _ ⟨_,_,rfl,⟨ak,ai,aj,aq,E,G,F,o,rfl,aw,L⟩,rfl⟩ e7 ci;refine mv 1 J (aA (a9 ak ai aj aq E G F o) J (aA (no 0) J (bV [F0,S0,F0,S0] ci (ao.ext e7).lt J fun U _ h bd _ aa bu=>(so bJ h [.bool ak,up ai aj aq,.bool E,up G F o] bu bd J J J J fun _ I Y cm=>(aE 1 J (aD (aV 1 J (fP J J J false (aG (aT J (bB ?_)))))))))));refine aL (sr (pf U 0 J (lo aB I (a5 ak ai aj aq) J J J (aX cm (L5 ab ((aw.ext aa).updT h Y).zi (aw.le (aJ Lp J))) J ?_))));rintro _ _ rfl M V;refine aE 1 J (aD (aD ?_));by_cases h1:q=1
 ·refine dW cM 5 [] [Is (i5 U 2),Is (O E G F o),ZR w.heap.size (1),Is (no (bM q 1)),Is (we)] [[],[0],[],[1,2],[3]] rfl (bY J ?_ ?_ ?_ ?_ (cG J ?_ dN)) ?_
  ·exact fun _ _=>aC (pf U 2 J (aI J))
  ·exact fun _ bp=>aO J (aC (lo aB (I.ext (M.t bp)) (a5 E G F o) J J J (aI J)))
  ·intro _ ch;have f:=V.trans ch;refine aC (bI [no 1] f (nF (n:=1) f.size) J ?_);rintro _ _ ⟨_,_,_,_,rfl,bw⟩ br X;exact bQ J br ⟨_,_,_,_,rfl,bw⟩
  ·intro _ bg;have f:=V.trans bg;refine aO J (aW J ?_);rintro _ _ ⟨_,_,_,_,rfl,Z⟩ _ bi;have Z:=Z.ext bi;refine aC (aX f (s7 (((L.ext aa).updT h Y).ext (M.t bg)).zi (L.le (aJ Lq J)) Z.zi (Z.le (a8 (show ln 1≤1 by decide+kernel) yd))) J ?_);rintro _ _ rfl cj X;exact bQ J cj rfl
  ·exact fun _ _=>aO J (aC (aH J (fE (mA.2 h1)) (aI J)))
  intro _ bo;have f:=V.trans bo;refine aY J (aW J ?_);rintro _ _ ⟨_,_,_,_,rfl,bf⟩ _ bm;have bf:=bf.ext bm;refine aY J (aC (cF (dM (aL (bC J (sr (aE 3 J (bA (cI (aZ [.string (aN sp),I0] J ⟨rfl,rfl,xl⟩ ?_))))))))));exact⟨_,rfl,⟨_,_,rfl,(show Value.string _= .string (aN (mW p q)) by unfold mW;rw [if_pos h1,←ab]),rfl⟩,f⟩
 refine dW cM 5 [] [Is (i5 U 2),Is (O E G F o),ZR w.heap.size (1),Is (no (bM q 1)),Is (wk)] [[],[0],[],[1,2],[3]] rfl (bY J ?_ ?_ ?_ ?_ (cG J ?_ dN)) ?_
 ·exact fun _ _=>aC (pf U 2 J (aI J))
 ·exact fun _ bj=>aO J (aC (lo aB (I.ext (M.t bj)) (a5 E G F o) J J J (aI J)))
 ·intro _ av;have f:=V.trans av;refine aC (bI [no 1] f (nF (n:=1) f.size) J ?_);rintro _ _ ⟨_,_,_,_,rfl,au⟩ az X;exact bQ J az ⟨_,_,_,_,rfl,au⟩
 ·intro _ ah;have f:=V.trans ah;refine aO J (aW J ?_);rintro _ _ ⟨_,_,_,_,rfl,H⟩ _ bh;have H:=H.ext bh;refine aC (aX f (s7 (((L.ext aa).updT h Y).ext (M.t ah)).zi (L.le (aJ Lq J)) H.zi (H.le (a8 (show ln 1≤1 by decide+kernel) yd))) J ?_);rintro _ _ rfl ar X;exact bQ J ar rfl
 ·exact fun _ _=>aO J (aC (aH J (gC (fun e=>h1 (mA.1 e))) (aI J)))
 intro _ W;have f:=V.trans W;refine aY J (aW J ?_);rintro _ _ ⟨_,_,_,_,rfl,ag⟩ _ ba;have ag:=ag.ext ba;refine aY J (aC (cF (dM (aL (aT J (bB (aL (aV 1 J (pL J J J (r:= .string (aN (sp++([47])))) J (fun w=>uT (a:=sp) (b:= [47]) (by simp only [f8,fO,List.length_nil];omega)) (pf U 2 J (lo aB (I.ext (M.t W)) (a5 E G F o) J J J ?_)))))))))));refine aX f (L5 am (((L.ext aa).updT h Y).ext (M.t W)).zi (L.le (aJ Lq J))) J ?_;rintro _ _ rfl _ X;refine pL J J J (r:= .string (aN ((sp++([47]))++sq))) J (fun w=>uT (a:=sp++([47])) (b:=sq) (by simp only [f8,fO,List.length_nil];omega)) (aE 2 J (bA (aZ [.string (aN ((sp++([47]))++sq)),I0] J ⟨rfl,rfl,xl⟩ ?_)));exact⟨_,rfl,⟨_,_,rfl,(show Value.string _= .string (aN (mW p q)) by unfold mW;rw [if_neg h1,←ab,←am]),rfl⟩,X⟩
theorem XL {nd:Nat}(hx:Zi w sa Aa na ca x)(la:na≤1048576)(hy:Zi w sd Ad nd cd y)(ld:nd≤1048576)(h0:y=0):aQ aM 25 #[a9 sa Aa na ca sd Ad nd cd] w (Gv w (T2 (ZR w.heap.size 0) (Is (no 4)))):=by
 have Lx:=bP hx la;have Ly:=bP hy ld;refine bU Tryz.func25 62 J (sr (bx [.bool sa,up Aa na ca,.bool sd,up Ad nd cd] bN J J J fun g1 _ h _ _ aj=>(bV [F0,S0] aj h.lt J fun _ _ L X _ e8 f=>(aE 1 J (sr (pf g1 0 J (lo aB (h.ext e8) (a5 sa Aa na ca) J J J (pf g1 2 J (lo aB (h.ext e8) (a5 sd Ad nd cd) J J J (aX f (EC f.size h0 (hx.ext f) (aJ la J) (hy.ext f) (aJ ld J)) J ?_))))))))));rintro _ _ ⟨_,_,rfl,⟨W,V,G,Z,U,H,F,M,rfl,_,_⟩,rfl⟩ I ag;refine mv 1 J (aA (a9 W V G Z U H F M) J (aA (no 4) J (bV [F0,S0,F0,S0] ag (L.ext I).lt J fun _ _ E Y _ ae ai=>(so bJ E [.bool W,up V G Z,.bool U,up H F M] ai Y J J J J fun _ _ ab ah=>(aE 1 J (aD (aV 1 J (fP J J J true (aG (bC J (aD ?_)))))))))));refine bH (aA (.agg #[F0,S0]) J (mv 1 J ?_));refine so aB ((L.ext (I.t ae)).vN ab) [F0,S0] ah X J J J J fun _ o _ aa=>(aE 1 J (bA (cI (aZ [.agg #[F0,S0],no 4] J ⟨⟨_,rfl,bK aB o [F0,S0] J (bq J) rfl⟩,rfl,xl⟩ ?_))));exact⟨_,rfl,⟨_,_,rfl,⟨_,_,_,_,rfl,Zr.zero⟩,rfl⟩,aa⟩
theorem XM {nd:Nat}(hx:Zi w sa Aa na ca x)(la:na≤1048576)(hy:Zi w sd Ad nd cd y)(ld:nd≤1048576)(hlow:Low p q x y):aQ aM 25 #[a9 sa Aa na ca sd Ad nd cd] w (Gv w (T2 (ZR w.heap.size (jX p q)) (Is (no 0)))):=by
 have Lx:=bP hx la;have Ly:=bP hy ld;have Lp:ln p≤1048576:=a8 (fR hlow.np) Lx;have Lq:ln q≤1048576:=a8 (fR hlow.nq) Ly;have Y:=hlow.pos;refine bU Tryz.func25 62 J (sr (bx [.bool sa,up Aa na ca,.bool sd,up Ad nd cd] bN J J J fun g1 _ ix _ _ mr=>(bV [F0,S0] mr ix.lt J fun _ _ en br _ e8 fo=>(aE 1 J (sr (pf g1 0 J (lo aB (ix.ext e8) (a5 sa Aa na ca) J J J (pf g1 2 J (lo aB (ix.ext e8) (a5 sd Ad nd cd) J J J (aX fo (AP fo.size hlow (hx.ext fo) (aJ la J) (hy.ext fo) (aJ ld J)) J ?_))))))))));rintro _ _ ⟨_,_,rfl,⟨fj,fq,fm,fp,da,dg,cv,df,rfl,mb,fh⟩,rfl⟩ ef mz;refine mv 1 J (aA (a9 fj fq fm fp da dg cv df) J (aA (no 0) J (bV [F0,S0,F0,S0] mz (en.ext ef).lt J fun fk _ cm ji _ bj mq=>(so bJ cm [.bool fj,up fq fm fp,.bool da,up dg cv df] mq ji J J J J fun _ ch bo ki=>(aE 1 J (aD (aV 1 J (fP J J J false (aG (aT J (bB ?_)))))))))));refine aL (sr (pf fk 0 J (lo aB ch (a5 fj fq fm fp) J J J (pf fk 2 J (lo aB ch (a5 da dg cv df) J J J (dP [O fj fq fm fp,O da dg cv df] (by have h:=F6 ki.size ((mb.ext bj).updT cm bo).zi (mb.le (aJ Lp J)) ((fh.ext bj).updT cm bo).zi (fh.le (aJ Lq J));rw [show eZ q=0 from if_neg i9] at h;exact h) J ?_))))));rintro _ _ ⟨_,rfl,nj,ba⟩;refine dO ?_;obtain⟨_,_,_,rfl,⟨U,M,W,V,rfl,aw⟩,⟨ct,cp,cz,de,rfl,fi⟩,rfl⟩:=nj;refine mv 1 J (aA (O U M W V) J (aA (O ct cp cz de) J (aA (no 0) J (bV [F0,S0] (ki.trans ba) (ch.ext ba).lt J fun _ _ fw dz _ ai nh=>(bV [F0,S0] nh fw.lt J fun jj _ lm kn _ ag mt=>?_)))));have ae:=(fw.ext ag);refine so aB ae (a5 U M W V) mt dz J J J J fun _ aj ab mx=>?_;have aa:=(lm.vN ab);refine so aB aa (a5 ct cp cz de) mx kn J J J J fun _ bp I fe=>(aE 1 J (aD ?_));have mo:ln (rF p q+rF p q)≤1048577:=a8 (eK (o8 Y Lq) (o8 Y Lq)) yd;refine dW cM 6 [] [Is (O ct cp cz de),Is (O ct cp cz de),ZR w.heap.size (rF p q+rF p q),Is (i5 fk 2),Is (O da dg cv df),Is (no (bM (rF p q+rF p q) q))] [[],[],[0,1],[],[3],[2,4]] rfl (bY J ?_ ?_ ?_ ?_ (cG J ?_ (cG J ?_ dN))) ?_
 ·exact fun _ mw=>aC (lo aB (bp.ext mw) (a5 ct cp cz de) J J J (aI J))
 ·exact fun _ my=>aC (lo aB (bp.ext my) (a5 ct cp cz de) J J J (aI J))
 ·intro _ jb;have X:=fe.trans jb;refine aY J (aC ?_);have om:ln (rF p q+rF p q)≤1048577:=a8 (eK (o8 Y Lq) (o8 Y Lq)) yd;refine aX X (qR X.size ((((fi.ext (ai.t ag)).updT ae ab).updT aa I).ext jb).zi (fi.le (a8 (o8 Y Lq) yd)) ((((fi.ext (ai.t ag)).updT ae ab).updT aa I).ext jb).zi (fi.le (a8 (o8 Y Lq) yd))) J ?_;rintro _ _ ⟨_,_,_,_,rfl,ni⟩ nk ah;exact bQ J nk ⟨_,_,_,_,rfl,ni⟩
 ·exact fun _ _=>aC (pf fk 2 J (aI J))
 ·exact fun _ mu=>aO J (aC (lo aB ((((ch.ext (ba.t (ai.t ag))).vN ab).vN I).ext mu) (a5 da dg cv df) J J J (aI J)))
 ·intro _ jg;have X:=fe.trans jg;refine aW J ?_;rintro _ _ ⟨_,_,_,_,rfl,ft⟩ _ mp;have ft:=ft.ext mp;refine aO J (aC (aX X (s7 ft.zi (ft.le (aJ mo J)) ((((((fh.ext bj).updT cm bo).ext (ba.t (ai.t ag))).updT ae ab).updT aa I).ext jg).zi (fh.le (aJ Lq J))) J ?_));rintro _ _ rfl lv ah;exact bQ J lv rfl
 intro gi f;have X:=fe.trans f;refine aY J (aW J ?_);rintro _ _ ⟨_,_,_,_,rfl,io⟩ _ jo;have io:=io.ext jo;refine aY J (aO J (aC (bS 1 J (dM (aL (aD ?_))))));have ny:ln (qF p q/2)≤1048577:=F3 (lN Y Lp);refine vW cM 9 [4,5,6] [7,8] [Is (O U M W V),ZR w.heap.size (2),T3 (ZR w.heap.size (qF p q/2)) (ZR w.heap.size (qF p q%2)) (Is (no 0)),T3 (ZR w.heap.size (qF p q/2)) (ZR w.heap.size (qF p q%2)) (Is (no 0)),ZR w.heap.size (qF p q/2),ZR w.heap.size (qF p q%2),Is (no 0),PR gi.heap.size 24 [F0,S0],PR gi.heap.size 24 [F0,S0]] [[],[],[0,1],[2],[3],[3],[3],[],[]] [[],[],[0,1],[0,1,2],[0,1,2,3],[0,1,2,3],[0,1,2,3],[],[],[0,1,2,3,4,7,8],[0,1,2,3,4,5,7,8,9],[0,1,2,3,4,5,6,7,8,9,10]] J J ⟨fun _ _ h=>PR.old h,fun _ _ h=>PR.old h,xl⟩ (bY J ?_ ?_ ?_ ?_ (gL J J (gM J ?_) (gL J J (gM J ?_) (gL J J (gM J ?_) (oU J J (vR J ?_) (oU J J (vR J ?_) dN)))))) ?_
 ·exact fun _ kg=>aC (lo aB ((aj.vN I).ext (f.t kg)) (a5 U M W V) J J J (aI J))
 ·intro _ ks;have ah:=X.trans ks;refine aC (bI [no 2] ah (nF (n:=2) ah.size) J ?_);rintro _ _ ⟨_,_,_,_,rfl,jr⟩ ko dh;exact bQ J ko ⟨_,_,_,_,rfl,jr⟩
 ·intro _ go;have ah:=X.trans go;refine aO J (aW J ?_);rintro _ _ ⟨_,_,_,_,rfl,bw⟩ _ jy;have bw:=bw.ext jy;refine aC ?_;have nx:ln (qF p q/2)≤1048577:=F3 (lN Y Lp);refine aX ah (F5 ah.size ((((aw.ext (ai.t ag)).updT ae ab).updT aa I).ext (f.t go)).zi (aw.le (a8 (lN Y Lp) yd)) bw.zi (bw.le (a8 (show ln 2≤1 by decide+kernel) yd)) yd) J ?_;rintro _ _ ⟨_,_,_,rfl,⟨_,_,_,_,rfl,jk⟩,⟨_,_,_,_,rfl,ke⟩,rfl⟩ jq dh;exact bQ J jq ⟨_,_,_,rfl,⟨_,_,_,_,rfl,jk⟩,⟨_,_,_,_,rfl,ke⟩,rfl⟩
 ·intro _ _;refine aW J ?_;rintro _ _ ⟨_,_,_,rfl,⟨_,_,_,_,rfl,ew⟩,⟨_,_,_,_,rfl,dt⟩,rfl⟩ _ gy;have ew:=ew.ext gy;have dt:=dt.ext gy;refine aC (mv 1 J ?_);exact bQ J bN ⟨_,_,_,rfl,⟨_,_,_,_,rfl,ew⟩,⟨_,_,_,_,rfl,dt⟩,rfl⟩
 ·intro _ _;refine aW J ?_;rintro _ _ ⟨_,_,_,rfl,⟨ju,jf,kv,kr,rfl,dw⟩,⟨_,_,_,_,rfl,gk⟩,rfl⟩ _ gj;have dw:=dw.ext gj;have gk:=gk.ext gj;refine aC ?_;exact⟨O ju jf kv kr,rfl,rfl,fun _=>by kernel_rfl,⟨_,_,_,_,rfl,dw⟩⟩
 ·intro _ _;refine aW J ?_;rintro _ _ ⟨_,_,_,rfl,⟨_,_,_,_,rfl,fz⟩,⟨ma,jv,kj,jw,rfl,eh⟩,rfl⟩ _ il;have fz:=fz.ext il;have eh:=eh.ext il;refine aC ?_;exact⟨O ma jv kj jw,rfl,rfl,fun _=>by kernel_rfl,⟨_,_,_,_,rfl,eh⟩⟩
 ·intro _ _;refine aW J ?_;rintro _ _ ⟨_,_,_,rfl,⟨_,_,_,_,rfl,ib⟩,⟨_,_,_,_,rfl,gg⟩,rfl⟩ _ gb;have ib:=ib.ext gb;have gg:=gg.ext gb;refine aC ?_;exact⟨no 0,rfl,rfl,fun _=>by kernel_rfl,rfl⟩
 ·intro _ kw;refine aC (iL J (z:= .agg #[F0,S0]) (vs:= [F0,S0]) ye J fun _ _ nb=>?_);exact bQ J nb.ext ⟨⟨_,rfl,by rw [←nb.at_];exact kw.size,nb.bk⟩,_,rfl,Nat.le_of_eq nb.at_⟩
 ·intro _ mi;refine aC (iL J (z:= .agg #[F0,S0]) (vs:= [F0,S0]) ye J fun _ _ nb=>?_);exact bQ J nb.ext ⟨⟨_,rfl,by rw [←nb.at_];exact mi.size,nb.bk⟩,_,rfl,Nat.le_of_eq nb.at_⟩
 intro _ F;have ah:=X.trans F;refine aO J (aW J ?_);rintro _ _ ⟨_,_,_,_,rfl,ij⟩ _ lh;have ij:=ij.ext lh;refine aW J ?_;rintro _ _ ⟨_,_,_,rfl,⟨_,_,_,_,rfl,gx⟩,⟨_,_,_,_,rfl,gf⟩,rfl⟩ _ ig;have gx:=gx.ext ig;have gf:=gf.ext ig;refine aW J ?_;rintro _ _ ⟨_,_,_,rfl,⟨_,_,_,_,rfl,fx⟩,⟨_,_,_,_,rfl,ik⟩,rfl⟩ _ iu;have fx:=fx.ext iu;have ik:=ik.ext iu;refine aW J ?_;rintro _ _ ⟨jx,kq,jh,ll,rfl,ga⟩ _ kd;have ga:=ga.ext kd;refine aW J ?_;rintro _ _ ⟨dl,em,ej,dm,rfl,am⟩ _ jz;have am:=am.ext jz;refine aO J (aW J ?_);rintro _ _ ⟨fd,rfl,ao,L⟩ _ ku;have L:=L.ext ku;have oa:jj<fd:=dA (bp.ext f).lt ao;have ao:w.heap.size≤fd:=a8 X.size ao;refine aW J ?_;rintro _ _ ⟨fb,rfl,aq,bm⟩ _ lj;have bm:=bm.ext lj;have nz:jj<fb:=dA (bp.ext f).lt aq;have aq:w.heap.size≤fb:=a8 X.size aq;refine aC ?_;intro el;have oe:fb≠fd:=fun e=>el 8 yd 7 yd yd _ _ J J _ _ J J _ (cJ J) (by rw [e];exact cJ J);clear el;refine so aB L (a5 jx kq jh ll) ah ao J J J J fun _ _ o dh=>?_;have Z:=(bm.vN o);refine so aB Z (a5 dl em ej dm) dh aq J J J J fun _ dx E ak=>(bS 1 J (dM (aL (aD (aD ?_)))));by_cases fv:0<bM (rF p q+rF p q) q
 ·refine aK 1 J (aH J (qQ (h:=fv)) (mv 8 J (aA (we) J (aG (bC J ?_)))));have nt:ln (qF p q+1)≤1048577:=a8 (eK (lN Y Lp) (show ln 1≤1 by decide+kernel)) yd;refine dW cM 3 [] [Is (O U M W V),ZR w.heap.size (1),ZR w.heap.size (qF p q+1)] [[],[],[0,1]] rfl (cG J ?_ (cG J ?_ (cG J ?_ dN))) ?_
  ·exact fun _ jm=>aC (lo aB (((((aj.vN I).ext (f.t F)).vN o).vN E).ext jm) (a5 U M W V) J J J (aI J))
  ·intro _ jt;have G:=ak.trans jt;refine aC (bI [no 1] G (nF (n:=1) G.size) J ?_);rintro _ _ ⟨_,_,_,_,rfl,kb⟩ kp H;exact bQ J kp ⟨_,_,_,_,rfl,kb⟩
  ·intro _ ge;have G:=ak.trans ge;refine aO J (aW J ?_);rintro _ _ ⟨_,_,_,_,rfl,ci⟩ _ ky;have ci:=ci.ext ky;refine aC ?_;have oi:ln (qF p q+1)≤1048577:=a8 (eK (lN Y Lp) (show ln 1≤1 by decide+kernel)) yd;refine aX G (qR G.size (((((((aw.ext (ai.t ag)).updT ae ab).updT aa I).ext (f.t F)).updT L o).updT Z E).ext ge).zi (aw.le (a8 (lN Y Lp) yd)) ci.zi (ci.le (a8 (show ln 1≤1 by decide+kernel) yd))) J ?_;rintro _ _ ⟨_,_,_,_,rfl,kz⟩ lp H;exact bQ J lp ⟨_,_,_,_,rfl,kz⟩
  intro _ ee;have G:=ak.trans ee;refine aO J (aW J ?_);rintro _ _ ⟨_,_,_,_,rfl,ia⟩ _ jp;have ia:=ia.ext jp;refine aW J ?_;rintro _ _ ⟨av,az,bg,au,rfl,ey⟩ _ mc;have ey:=ey.ext mc;refine aC ?_;have fg:=(((((aj.vN I).ext (f.t F)).vN o).vN E).ext ee);refine so aB fg (a5 av az bg au) G dz J J J J fun _ je ir H=>(cF (dM (aL (sr (lo aB je (a5 av az bg au) J J J ?_)))));have eg:=((((((((((en.ext (ef.t bj)).vN bo).ext (ba.t (ai.t ag))).vN ab).vN I).ext (f.t F)).vN o).vN E).ext ee).vN ir);refine so aB eg (a5 av az bg au) H br J J J J fun _ iz kc bd=>(aE 1 J (bA (aZ [O av az bg au,I0] J ⟨⟨_,rfl,bK aB iz (a5 av az bg au) J (bq J) rfl⟩,rfl,xl⟩ ?_)));exact⟨_,rfl,⟨_,_,rfl,⟨_,_,_,_,rfl,(((ey.updT fg ir).updT eg kc)).cast (show _=jX p q by unfold jX;rw [if_pos (cJ fv)])⟩,rfl⟩,bd⟩
 by_cases hz:bM (rF p q+rF p q) q=0
 ·by_cases iy:qF p q%2≠0
  ·refine aK 1 J (aH J (pW) (mv 2 J (aH J (fE hz) (mv 1 J (lo aB dx (a5 dl em ej dm) J J J (aX ak (gR ((am.updT L o).updT Z E).zi (am.le (a8 (show ln (qF p q%2)≤1 from a8 (fR (y:=1) i9) (by decide+kernel)) yd))) J ?_))))));rintro _ _ rfl cj G;refine aH J (pO (fun e=>iy (mA.1 e))) (aA (we) J (aA (we) J (aG (bC J ?_))));have oh:ln (qF p q+1)≤1048577:=a8 (eK (lN Y Lp) (show ln 1≤1 by decide+kernel)) yd;refine dW cM 3 [] [Is (O U M W V),ZR w.heap.size (1),ZR w.heap.size (qF p q+1)] [[],[],[0,1]] rfl (cG J ?_ (cG J ?_ (cG J ?_ dN))) ?_
   ·exact fun _ ka=>aC (lo aB (((((aj.vN I).ext (f.t F)).vN o).vN E).ext (cj.t ka)) (a5 U M W V) J J J (aI J))
   ·intro _ kx;have H:=G.trans kx;refine aC (bI [no 1] H (nF (n:=1) H.size) J ?_);rintro _ _ ⟨_,_,_,_,rfl,md⟩ mj bd;exact bQ J mj ⟨_,_,_,_,rfl,md⟩
   ·intro _ ie;have H:=G.trans ie;refine aO J (aW J ?_);rintro _ _ ⟨_,_,_,_,rfl,bu⟩ _ mn;have bu:=bu.ext mn;refine aC ?_;have nl:ln (qF p q+1)≤1048577:=a8 (eK (lN Y Lp) (show ln 1≤1 by decide+kernel)) yd;refine aX H (qR H.size (((((((aw.ext (ai.t ag)).updT ae ab).updT aa I).ext (f.t F)).updT L o).updT Z E).ext (cj.t ie)).zi (aw.le (a8 (lN Y Lp) yd)) bu.zi (bu.le (a8 (show ln 1≤1 by decide+kernel) yd))) J ?_;rintro _ _ ⟨_,_,_,_,rfl,kt⟩ jl bd;exact bQ J jl ⟨_,_,_,_,rfl,kt⟩
   intro _ du;have H:=G.trans du;refine aO J (aW J ?_);rintro _ _ ⟨_,_,_,_,rfl,fy⟩ _ mg;have fy:=fy.ext mg;refine aW J ?_;rintro _ _ ⟨bf,bh,ar,bi,rfl,ez⟩ _ mf;have ez:=ez.ext mf;refine aC ?_;have fc:=(((((aj.vN I).ext (f.t F)).vN o).vN E).ext (cj.t du));refine so aB fc (a5 bf bh ar bi) H dz J J J J fun _ ja iq bd=>(cF (dM (aL (sr (lo aB ja (a5 bf bh ar bi) J J J ?_)))));have fa:=((((((((((en.ext (ef.t bj)).vN bo).ext (ba.t (ai.t ag))).vN ab).vN I).ext (f.t F)).vN o).vN E).ext (cj.t du)).vN iq);refine so aB fa (a5 bf bh ar bi) bd br J J J J fun _ jd me kk=>(aE 1 J (bA (aZ [O bf bh ar bi,I0] J ⟨⟨_,rfl,bK aB jd (a5 bf bh ar bi) J (bq J) rfl⟩,rfl,xl⟩ ?_)));exact⟨_,rfl,⟨_,_,rfl,⟨_,_,_,_,rfl,(((ez.updT fc iq).updT fa me)).cast (show _=jX p q by unfold jX;rw [if_pos (cN ⟨hz,iy⟩)])⟩,rfl⟩,kk⟩
  refine aK 1 J (aH J (pW) (mv 2 J (aH J (fE hz) (mv 1 J (lo aB dx (a5 dl em ej dm) J J J (aX ak (gR ((am.updT L o).updT Z E).zi (am.le (a8 (show ln (qF p q%2)≤1 from a8 (fR (y:=1) i9) (by decide+kernel)) yd))) J ?_))))));rintro _ _ rfl ei G;refine aH J (pP (mA.2 i9)) (aA (wk) J (aA (wk) J (aG (aT J (bB (aL (sr (lo aB (((((aj.vN I).ext (f.t F)).vN o).vN E).ext ei) (a5 U M W V) J J J ?_))))))));have dy:=(((((((((en.ext (ef.t bj)).vN bo).ext (ba.t (ai.t ag))).vN ab).vN I).ext (f.t F)).vN o).vN E).ext ei);refine so aB dy (a5 U M W V) G br J J J J fun _ jc mh H=>(aE 1 J (bA (aZ [O U M W V,I0] J ⟨⟨_,rfl,bK aB jc (a5 U M W V) J (bq J) rfl⟩,rfl,xl⟩ ?_)));exact⟨_,rfl,⟨_,_,rfl,⟨_,_,_,_,rfl,(((((((((aw.ext (ai.t ag)).updT ae ab).updT aa I).ext (f.t F)).updT L o).updT Z E).ext ei).updT dy mh)).cast (show _=jX p q by unfold jX;rw [if_neg (fun h=>h.elim fv (fun h=>iy h.2))])⟩,rfl⟩,H⟩
 refine aK 1 J (aH J (pW) (mv 2 J (aH J (gC hz) (mv 4 J (aA (wk) J (aA (wk) J (aG (aT J (bB (aL (sr (lo aB ((((aj.vN I).ext (f.t F)).vN o).vN E) (a5 U M W V) J J J ?_))))))))))));have dr:=((((((((en.ext (ef.t bj)).vN bo).ext (ba.t (ai.t ag))).vN ab).vN I).ext (f.t F)).vN o).vN E);refine so aB dr (a5 U M W V) ak br J J J J fun _ iw kf G=>(aE 1 J (bA (aZ [O U M W V,I0] J ⟨⟨_,rfl,bK aB iw (a5 U M W V) J (bq J) rfl⟩,rfl,xl⟩ ?_)));exact⟨_,rfl,⟨_,_,rfl,⟨_,_,_,_,rfl,((((((((aw.ext (ai.t ag)).updT ae ab).updT aa I).ext (f.t F)).updT L o).updT Z E).updT dr kf)).cast (show _=jX p q by unfold jX;rw [if_neg (fun h=>h.elim fv (fun h=>hz h.1))])⟩,rfl⟩,G⟩
def wA (P:cO)(n:Nat)(ol:List bE)(vs:List aF)(w0:a6)(dss:List (List Nat))(l:Fr):List Nat→Prop
 | []=>True
 | i::r=>(match ol[i]? with
  | some o=>∀w,Ext w0 w→jA P n (dfr ol vs l (dL dss i)) o w (.value ((vs[i]?).getD undef)) w
  | none=>True)∧wA P n ol vs w0 dss l r
def TwB (ol:List bE)(T:aS)(zs us:List aF)(j s:Nat)(w0:a6)(listed:Array Bool)(a:Act)(w:a6)(g:Nat):Prop:=
 listed.getD j false=true→iY a (dB ol j)= i5 g 0∧w0.heap.size≤g∧Bk w g T (if listed.getD s false=true then us else zs)
def TwI (n:Nat)(ol:List bE)(l:Fr)(vs:List aF)(T:aS)(zs us1 us2:List aF)(j1 s1 j2 s2:Nat)(w0:a6)(listed:Array Bool)(a:Act)(w:a6):Prop:=
 Rp n l a∧Ext w0 w∧(∀i,i<ol.length→i≠j1→i≠j2→listed.getD i false=true→∀d,dB ol i=some d→a.tmps.getD d undef=(vs[i]?).getD undef)∧
 ∃g1 g2,TwB ol T zs us1 j1 s1 w0 listed a w g1∧TwB ol T zs us2 j2 s2 w0 listed a w g2∧(listed.getD j1 false=true→listed.getD j2 false=true→g1≠g2)
def sL (P:cO)(n:Nat)(ol:List bE)(vs:List aF)(w0:a6)(l:Fr)(T:aS)(zs us:List aF)(j s k:Nat):Prop:=
 match ol[s]? with
 | some o=>∀w g,Ext w0 w→Bk w g T zs→∃w',jA P n (oR (dB ol j) (.pointer (some ⟨g,0,none⟩)) (oR (dB ol k) ((vs[k]?).getD undef) l)) o w .skip w'∧Bk w' g T us∧Upd g w w'
 | none=>False
def sK (P:cO)(n:Nat)(ol:List bE)(l:Fr)(T:aS)(zs:List aF)(j:Nat):Prop:=
 match ol[j]? with
 | some o=>∀w,jA P n l o w (.value (.pointer (some ⟨w.heap.size,0,none⟩))) (w.alloc (.cells zs.toArray T))
 | none=>False
def DK (N:Nat)(dss rl:List (List Nat))(j1 s1 k1 j2 s2 k2:Nat)(is:List Nat):Bool:=
 (eI N).all (fun i=>i==j1||i==j2||i==s1||i==s2||is.contains i)&&(eI N).all (fun i=> !(dL dss i).contains j1&& !(dL dss i).contains j2)&&decide (j1<N)&&decide (j2<N)&&decide (k1<N)&&decide (k2<N)&&decide (s1<N)&&decide (s2<N)&&
 (dL rl s1).contains j1&&(dL rl s1).contains k1&&(dL rl s2).contains j2&&(dL rl s2).contains k2&&decide (j1≠j2)&&decide (s1≠s2)&&decide (j1≠s1)&&decide (j1≠s2)&&decide (j2≠s1)&&decide (j2≠s2)&&decide (k1≠j1)&&decide (k1≠j2)&&decide (k2≠j1)&&decide (k2≠j2)
section
variable {P:cO}{Q:dX→Act→a6→Prop}{n:Nat}{ol:List bE}{vs:List aF}{w0 w:a6}{dss rl:List (List Nat)}{l:Fr}{ps:List (Nat×Nat)}{T:aS}{zs us1 us2:List aF}{j1 j2 s1 s2 k1 k2:Nat}{st:List Nat}{listed:Array Bool}{a:Act}
theorem TwI.swap (h:TwI n ol l vs T zs us1 us2 j1 s1 j2 s2 w0 listed a w):TwI n ol l vs T zs us2 us1 j2 s2 j1 s1 w0 listed a w:=by
 obtain⟨h1,h2,F,f,G,o,E,H⟩:=h;exact⟨h1,h2,fun i hi h h'=>F i hi h' h,G,f,E,o,fun h h' e=>H h' h e.symm⟩
theorem JB (hk:DetOk n ol st l dss rl ps)(ho:ol[i]?=some o)(hd:o.dst=some d)(hij:i≠j)(v:aF):iY (a.put (some d) v) (dB ol j)=iY a (dB ol j):=by
 obtain⟨_,_,_,f⟩:=hk.val i o ho d hd;refine zV ?_ v;unfold dB;cases hoj:ol[j]? with
 | none=>intro h;cases h
 | some oj=>exact f j oj hoj (mP hij)
theorem TwB.far {s:Nat}(hk:DetOk n ol st l dss rl ps)(h:TwB ol T zs us j s w0 listed a w g)(ho:ol[i]?=some o)(hd:o.dst=some d)(hij:i≠j)(his:i≠s)(v:aF)(e:Ext w w'):TwB ol T zs us j s w0 (listed.setIfInBounds i true) (a.put (some d) v) w' g:=by
 intro hl;rw [Go.getD_set_ne false hij] at hl;obtain⟨h1,h2,f⟩:=h hl;refine⟨(JB hk ho hd hij v).trans h1,h2,?_⟩;rw [Go.getD_set_ne false his];exact f.ext e
theorem IK (hk:DetOk n ol st l dss rl ps)(h:∀i,i<ol.length→i≠j1→i≠j2→listed.getD i false=true→∀d,dB ol i=some d→a.tmps.getD d undef=(vs[i]?).getD undef)(ho:ol[i]?=some o)(hd:o.dst=some d)(hs:a.tmps.size=n){v:aF}(hv:i≠j1→i≠j2→v=(vs[i]?).getD undef):∀k,k<ol.length→k≠j1→k≠j2→(listed.setIfInBounds i true).getD k false=true→∀e,dB ol k=some e→(a.put (some d) v).tmps.getD e undef=(vs[k]?).getD undef:=by
 intro k hk' h1 h2 hl e he;obtain⟨_,E,_,_⟩:=hk.val i o ho d hd;by_cases f:i=k
 ·subst f;have F:dB ol i=some d:=by unfold dB;rw [ho];exact hd
  rw [F] at he;cases he;exact (t7 hs E v).trans (hv h1 h2)
 rw [Go.getD_set_ne false f] at hl;have:=JB (a:=a) hk ho hd f v;rw [he] at this;exact this.trans (h k hk' h1 h2 hl e he)
theorem TwI.val (hk:DetOk n ol st l dss rl ps)(h:TwI n ol l vs T zs us1 us2 j1 s1 j2 s2 w0 listed a w)(ho:ol[i]?=some o)(hd:o.dst=some d)(h1:i≠j1)(h2:i≠j2)(h3:i≠s1)(h4:i≠s2):TwI n ol l vs T zs us1 us2 j1 s1 j2 s2 w0 (listed.setIfInBounds i true) (a.put (some d) ((vs[i]?).getD undef)) w:=by
 obtain⟨hr,hx,H,G,L,I,M,f⟩:=h;refine⟨hr.put_far (hk.val i o ho d hd).2.2.1 _,hx,IK hk H ho hd hr.size (fun _ _=>rfl),G,L,I.far hk ho hd h1 h3 _ bN,M.far hk ho hd h2 h4 _ bN,fun E F=>?_⟩;rw [Go.getD_set_ne false h1] at E;rw [Go.getD_set_ne false h2] at F;exact f E F
theorem TwI.new (hk:DetOk n ol st l dss rl ps)(h:TwI n ol l vs T zs us1 us2 j1 s1 j2 s2 w0 listed a w)(ho:ol[j1]?=some o)(hd:o.dst=some d)(hs1:listed.getD s1 false=false)(h2:j1≠j2)(h3:j1≠s1)(h4:j1≠s2):TwI n ol l vs T zs us1 us2 j1 s1 j2 s2 w0 (listed.setIfInBounds j1 true) (a.put (some d) (i5 w.heap.size 0)) (w.alloc (.cells zs.toArray T)):=by
 obtain⟨hr,hx,F,_,G,_,E,_⟩:=h;refine⟨hr.put_far (hk.val j1 o ho d hd).2.2.1 _,hx.alloc _,IK hk F ho hd hr.size (fun h _=>absurd J h),w.heap.size,G,fun _=>⟨?_,hx.size,?_⟩,E.far hk ho hd h2 h4 _ ((Ext.refl w).alloc _),fun _ f=>?_⟩
 ·have H:dB ol j1=some d:=by unfold dB;rw [ho];exact hd
  rw [H];exact t7 hr.size (hk.val j1 o ho d hd).2.1 _
 ·rw [Go.getD_set_ne false h3,hs1];exact Bk.new w T zs
 rw [Go.getD_set_ne false h2] at f;have:=(E f).2.2.lt;omega
theorem TwI.fill (h:TwI n ol l vs T zs us1 us2 j1 s1 j2 s2 w0 listed a w)(hj:listed.getD j1 false=true)(hg:iY a (dB ol j1)= i5 g 0)(hb:Bk w' g T us1)(hu:Upd g w w')(hN:s1<listed.size)(h1:s1≠j1)(h2:s1≠j2)(h3:s1≠s2)(hd:dB ol s1=none):TwI n ol l vs T zs us1 us2 j1 s1 j2 s2 w0 (listed.setIfInBounds s1 true) a w':=by
 obtain⟨hr,hx,U,M,L,V,W,E⟩:=h;obtain⟨o,I,_⟩:=V hj
 have G:g=M:=by
  rw [hg] at o
  injection o with o
  injection o with o
  injection o
 subst G;refine⟨hr,hu.ext hx I,fun i hi H f hl d hd'=>?_,g,L,fun _=>⟨o,I,?_⟩,fun f=>?_,fun H f=>?_⟩
 ·by_cases F:s1=i
  ·subst F;rw [hd] at hd';cases hd'
  rw [Go.getD_set_ne false F] at hl;exact U i hi H f hl d hd'
 ·rw [if_pos (by simp [hN])];exact hb
 ·rw [Go.getD_set_ne false h2] at f;obtain⟨d1,d2,d3⟩:=W f;rw [Go.getD_set_ne false h3];exact⟨d1,d2,d3.upd hu (fun e=>E hj f e.symm)⟩
 rw [Go.getD_set_ne false h2] at f;exact E hj f
theorem ST (h:wA P n ol vs w0 dss l is):∀i∈is,∀o,ol[i]?=some o→∀w,Ext w0 w→jA P n (dfr ol vs l (dL dss i)) o w (.value ((vs[i]?).getD undef)) w:=by
 induction is with
 | nil=>intro i hi;cases hi
 | cons k r ih=>
  intro i hi o ho
  rcases List.mem_cons.1 hi with e | e
  ·subst e
   have:=h.1
   rw [ho] at this
   exact this
  ·exact ih h.2 i e o ho
def QM (Q:dX→Act→a6→Prop)(n:Nat)(ol:List bE)(vs:List aF)(l:Fr)(w0:a6)(T:aS)(us1 us2:List aF)(j1 j2:Nat)(is:List Nat):Prop:=
 ∀g1 g2 w,Ext w0 w→g1≠g2→w0.heap.size≤g1→w0.heap.size≤g2→Bk w g1 T us1→Bk w g2 T us2→eo Q .normal n (oR (dB ol j1) (i5 g1 0) (oR (dB ol j2) (i5 g2 0) (dfr ol vs l is))) w
theorem T8 (hk:DetOk n ol [s1,s2] l dss rl ps)(ht:DK ol.length dss rl j1 s1 k1 j2 s2 k2 is=true)(hj1:j1 ∉ is)(hj2:j2 ∉ is)(his:∀i∈is,i<ol.length)(hv:wA P n ol vs w0 dss l is)(hm1:sK P n ol l T zs j1)(hm2:sK P n ol l T zs j2)(hf1:sL P n ol vs w0 l T zs us1 j1 s1 k1)(hf2:sL P n ol vs w0 l T zs us2 j2 s2 k2)(hfin:QM Q n ol vs l w0 T us1 us2 j1 j2 is):∀(fuel:Nat) (listed:Array Bool) (a:Act) (w:a6),uP ol.length listed≤fuel→listed.size=ol.length→Closed ol listed→TwI n ol l vs T zs us1 us2 j1 s1 j2 s2 w0 listed a w→wpAny P .any ol.toArray Q fuel listed a w:=by
 simp only [DK,fB,decide_eq_true_eq,lL,ne_eq] at ht;obtain⟨⟨⟨⟨⟨⟨⟨⟨⟨⟨⟨⟨⟨⟨⟨⟨⟨⟨⟨⟨⟨hall0,hnd⟩,l1⟩,l2⟩,l3⟩,l4⟩,l5⟩,l6⟩,r1⟩,r2⟩,r3⟩,r4⟩,n1⟩,n2⟩,n3⟩,n4⟩,n5⟩,n6⟩,n7⟩,n8⟩,n9⟩,n10⟩:=ht;rw [gK] at hall0 hnd
 have fin:∀(listed:Array Bool) (a:Act) (w:a6),(∀i,i<ol.length→listed.getD i false=true)→TwI n ol l vs T zs us1 us2 j1 s1 j2 s2 w0 listed a w→Q .normal a w:=by
  intro listed a w hall h
  obtain⟨hr,hx,hval,g1,g2,b1,b2,hne⟩:=h
  obtain⟨c1,c2,c3⟩:=b1 (hall _ l1)
  obtain⟨d1,d2,d3⟩:=b2 (hall _ l2)
  rw [if_pos (hall _ l5)] at c3
  rw [if_pos (hall _ l6)] at d3
  have hr1:Rp n (dfr ol vs l is) a:=hr.dfr is fun j hj d hd=>hval j (his j hj) (fun e=>hj1 (e▸hj)) (fun e=>hj2 (e▸hj)) (hall j (his j hj)) d hd
  refine hfin g1 g2 w hx (hne (hall _ l1) (hall _ l2)) c2 d2 c3 d3 a ?_
  have key:∀{l':Fr}{j:Nat}{v:aF},Rp n l' a→iY a (dB ol j)=v→Rp n (oR (dB ol j) v l') a:=by
   intro l' j v h1 h2
   cases hd:dB ol j with
   | none=>exact h1
   | some d=>rw [hd] at h2;exact h1.cons h2
  exact key (key hr1 d1) c1
 intro fuel
 induction fuel with
 | zero=>
  intro listed a w hf hs hcl hI
  have hall:∀i,i<ol.length→listed.getD i false=true:=by
   intro i hi
   cases h:listed.getD i false with
   | true=>rfl
   | false=>have:=oK hi hs h;omega
  refine⟨?_,fin listed a w hall hI⟩
  refine List.eq_nil_iff_forall_not_mem.2 fun j hj=>?_
  obtain⟨h1,o,hoj,_⟩:=mC.1 hj
  have hjl:j<ol.length:=(gU.1 hoj).1
  rw [mG,hall j hjl] at h1
  cases h1
 | succ fuel ih=>
  intro listed a w hf hs hcl hI
  refine⟨fun h0=>?_,fun i hir=>?_⟩
  ·refine fin listed a w (fun i hi=>?_) hI
   have key:∀k,k≤ol.length→∀i,i<k→listed.getD i false=true:=by
    intro k
    induction k with
    | zero=>intro _ i hi;omega
    | succ k ihk=>
     intro hk' i hi
     have ih':=ihk i9
     rcases kQ i k with h | h
     ·exact ih' i h
     ·have e:i=k:=by omega
      subst e
      cases hb:listed.getD i false with
      | true=>rfl
      | false=>
       have hrdy:i∈Region.ready .any ol.toArray listed:=mC.2 ⟨by rw [mG];exact hb,_,cT i9,fun e he hbb=>ih' _ (hk.back i _ (cT i9) e he hbb)⟩
       rw [h0] at hrdy;cases hrdy
   exact key ol.length (aU _) i hi
  ·obtain⟨hun,o,hoi,hall⟩:=mC.1 hir
   have hil:i<ol.length:=(gU.1 hoi).1
   have hun':listed.getD i false=false:=by rw [←mG];exact hun
   have hrch:=PV hk hcl i o hoi hall
   have hwant:wK o (yielded ol.toArray a.tmps)=true:=by simp [wK,hk.guard i o hoi]
   have hu:=oK hil hs hun'
   have notyet:∀s,s<ol.length→i∈dL rl s→listed.getD s false=false:=by
    intro s hsl hm
    cases hb:listed.getD s false with
    | false=>rfl
    | true=>
     have:=PV hk hcl s _ (cT hsl) (fun e he hbb=>hcl s _ (cT hsl) hb e he hbb) i hm
     rw [hun'] at this;cases this
   have hr:=hI.1
   have hx:=hI.2.1
   have hval:=hI.2.2.1
   unfold wpOp
   rw [qU,hoi]
   simp only
   rw [if_pos hwant]
   refine cJ ?_
   unfold Oper.wp
   have hdst:i≠s1→i≠s2→∃d,o.dst=some d:=fun e1 e2=>by
    cases hd:o.dst with
    | none=>
     have:=hk.sto i o hoi hd
     simp at this
     rcases this with h | h
     ·exact absurd h e1
     ·exact absurd h e2
    | some d=>exact⟨d,rfl⟩
   have hnone:i∈ [s1,s2]→o.dst=none:=fun hm=>by
    cases hd:o.dst with
    | none=>rfl
    | some d=>exact absurd hm (hk.val i o hoi d hd).1
   have putRp:∀{l':Fr}{k:Nat}{v:aF},Rp n l' a→(∀d,dB ol k=some d→a.tmps.getD d undef=v)→Rp n (oR (dB ol k) v l') a:=by
    intro l' k v h1 h2
    cases hd:dB ol k with
    | none=>exact h1
    | some d=>exact h1.cons (h2 d hd)
   by_cases e1:i=j1
   ·subst e1
    obtain⟨d,hd⟩:=hdst n3 n4
    unfold sK at hm1
    rw [hoi] at hm1
    rw [hm1 w a hr]
    simp only [nN,hd]
    exact ih _ _ _ i9 (by simpa using hs) (hcl.set hoi hall) (hI.new hk hoi hd (notyet s1 l5 r1) n1 n3 n4)
   by_cases e2:i=j2
   ·subst e2
    obtain⟨d,hd⟩:=hdst n5 n6
    unfold sK at hm2
    rw [hoi] at hm2
    rw [hm2 w a hr]
    simp only [nN,hd]
    exact ih _ _ _ i9 (by simpa using hs) (hcl.set hoi hall) ((hI.swap.new hk hoi hd (notyet s2 l6 r3) (mP n1) n6 n5).swap)
   by_cases e3:i=s1
   ·subst e3
    have hd:=hnone ym
    unfold sL at hf1
    rw [hoi] at hf1
    obtain⟨g1,g2,b1,b2,hne⟩:=hI.2.2.2
    obtain⟨c1,c2,c3⟩:=b1 (hrch _ r1)
    rw [if_neg (by rw [hun'];exact Bool.false_ne_true)] at c3
    obtain⟨w',h1,h2,h3⟩:=hf1 w _ hx c3
    have hk1:Rp n (oR (dB ol k1) ((vs[k1]?).getD undef) l) a:=putRp hr fun d hdd=>hval k1 l3 n7 n8 (hrch _ r2) d hdd
    rw [h1 a (putRp hk1 fun d hdd=>by rw [hdd] at c1;exact c1)]
    simp only [nN,hd]
    exact ih _ _ _ i9 (by simpa using hs) (hcl.set hoi hall) (hI.fill (hrch _ r1) c1 h2 h3 i9 (mP n3) (mP n5) n2 (by unfold dB;rw [hoi];exact hd))
   by_cases e4:i=s2
   ·subst e4
    have hd:=hnone ym
    unfold sL at hf2
    rw [hoi] at hf2
    obtain⟨g1,g2,b1,b2,hne⟩:=hI.2.2.2
    obtain⟨c1,c2,c3⟩:=b2 (hrch _ r3)
    rw [if_neg (by rw [hun'];exact Bool.false_ne_true)] at c3
    obtain⟨w',h1,h2,h3⟩:=hf2 w _ hx c3
    have hk1:Rp n (oR (dB ol k2) ((vs[k2]?).getD undef) l) a:=putRp hr fun d hdd=>hval k2 l4 n9 n10 (hrch _ r4) d hdd
    rw [h1 a (putRp hk1 fun d hdd=>by rw [hdd] at c1;exact c1)]
    simp only [nN,hd]
    exact ih _ _ _ i9 (by simpa using hs) (hcl.set hoi hall) ((hI.swap.fill (hrch _ r3) c1 h2 h3 i9 (mP n6) (mP n4) (mP n2) (by unfold dB;rw [hoi];exact hd)).swap)
   have hmem:i∈is:=by
    have:=hall0 i (j5.2 hil)
    simp only [Bool.or_eq_true,beq_iff_eq,lL] at this
    rcases this with (((h | h) | h) | h) | h
    ·exact absurd h e1
    ·exact absurd h e2
    ·exact absurd h e3
    ·exact absurd h e4
    ·exact h
   obtain⟨d,hd⟩:=hdst e3 e4
   have hnd':=hnd i (j5.2 hil)
   simp only [fB,CW] at hnd'
   have hacc:Rp n (dfr ol vs l (dL dss i)) a:=hr.dfr _ fun j hj d hd=>by
    have h1:=hk.deps i o hoi j hj
    have h2:=(hk.reach i o hoi j h1).1
    refine hval j i9 (fun e=>?_) (fun e=>?_) (hrch j h1) d hd
    ·subst e;rw [lL.2 hj] at hnd';exact absurd hnd'.1 ym
    ·subst e;rw [lL.2 hj] at hnd';exact absurd hnd'.2 ym
   rw [ST hv i hmem o hoi w hx a hacc]
   simp only [nN,hd]
   exact ih _ _ _ i9 (by simpa using hs) (hcl.set hoi hall) (hI.val hk hoi hd e1 e2 e3 e4)
theorem PM (hmix:P.follows .mixedOrders=true)(T:aS)(zs us1 us2:List aF)(j1 s1 k1 j2 s2 k2:Nat)(vs:List aF)(is:List Nat)(dss rl:List (List Nat))(ps:List (Nat×Nat))(hk:FY n ol [s1,s2] l dss rl ps=true)(ht:(DK ol.length dss rl j1 s1 k1 j2 s2 k2 is&& !is.contains j1&& !is.contains j2&&is.all (fun i=>decide (i<ol.length)))=true)(hm1:sK P n ol l T zs j1)(hm2:sK P n ol l T zs j2)(hf1:sL P n ol vs w l T zs us1 j1 s1 k1)(hf2:sL P n ol vs w l T zs us2 j2 s2 k2)(hv:wA P n ol vs w dss l is)(hfin:QM Q n ol vs l w T us1 us2 j1 j2 is):cw P Q n (.region id ol.toArray true) l w:=fun a H=>by
 refine wp_region_any hmix ?_
 simp only [fB,CW,gK,decide_eq_true_eq] at ht
 obtain⟨⟨⟨h1,h2⟩,F⟩,G⟩:=ht
 have E:(uN ol.toArray.size false).size=ol.length:=by simp
 have f:∀i,(uN ol.toArray.size false).getD i false=false:=by
  intro i
  simp only [Array.getD_eq_getD_getElem?,Array.getElem?_replicate]
  split <;> rfl
 have I:TwI n ol l vs T zs us1 us2 j1 s1 j2 s2 w (uN ol.toArray.size false) a w.drew:=by
  refine⟨H,(Ext.refl w).drew,?_,0,0,?_,?_,?_⟩
  ·intro i _ _ _ h;rw [f] at h;cases h
  ·intro h;rw [f] at h;cases h
  ·intro h;rw [f] at h;cases h
  ·intro h;rw [f] at h;cases h
 refine T8 (a2y hk) h1 (fun h=>by rw [lL.2 h] at h2;cases h2) (fun h=>by rw [lL.2 h] at F;cases F) G hv hm1 hm2 hf1 hf2 hfin ol.toArray.size _ a _ ?_ E (fun i o _ h=>by rw [f] at h;cases h) I
 refine a8 List.countP_le_length ?_
 simp
theorem rG {v:aF}(ho:ol[i]?=some o)(hv:(vs[i]?).getD undef=v)(hacc:dfr ol vs l (dL dss i)=acc)(h:∀w,Ext w0 w→jA P n acc o w (.value v) w)(h':wA P n ol vs w0 dss l is):wA P n ol vs w0 dss l (i::is):=by
 refine⟨?_,h'⟩;rw [ho];simp only;rw [hv,hacc];exact h
theorem B9 {z:aF}(ho:ol[j]?=some ⟨some d,.alloc T,ty,pos,af,none⟩)(hz:∀w,(zeroValue T).run P w= .ok z w)(hv:z.cells=zs.toArray):sK P n ol l T zs j:=by
 unfold sK;rw [ho];intro w a _
 have e:(CV T true (.tuple #[])).run P w= .ok (i5 w.heap.size 0) (w.alloc (.cells zs.toArray T)):=by
  show ((zeroValue T>>=fun z=>(newVar T z>>=fun r=>pure (yT (some r))):Sem aF)).run P w=_
  rw [cV,hz w]
  show ((newVar T z>>=fun r=>pure (yT (some r)):Sem aF)).run P w=_
  rw [cV,E0 hv];rfl
 show ((CV T true (.tuple #[])>>=fun r=>pure (iE r):Sem Next)).run P w=_;rw [cV,e];rfl
theorem BP {s k dj dk:Nat}{x y:cR}(ho:ol[s]?=some ⟨none,.store T x y,ty,pos,af,none⟩)(hj:dB ol j=some dj)(hkk:dB ol k=some dk)(hval:(vs[k]?).getD undef= .agg us.toArray)(hx:∀v u,cB ((dj,v)::(dk,u)::l) x=some v)(hy:∀v u,cB ((dj,v)::(dk,u)::l) y=some u)(hT:AggT P T K)(hlen:us.length=K)(hz:zs.length=K)(h1:us.all (·.oneCell')=true):sL P n ol vs w0 l T zs us j s k:=by
 unfold sL;rw [ho];intro w g _ hb;obtain⟨w',hr,f,h,_⟩:=AF (P:=P) hT hlen hb (off:=0) i9 h1 us (by unfold jP;rw [List.take_zero,List.nil_append,eR,hlen,←hz,List.drop_length,m7]);refine⟨w',?_,f,h⟩;rw [hj,hkk,hval];exact fQ (hx _ _) (hy _ _) hr
end
def fX (x y:Int):Int:=if y<0 then-x else x
def fJ (y:Int):Int:=if y<0 then-y else y
theorem sF (h:y≠0):0<fJ y:=by unfold fJ;split <;> omega
theorem N4:ln (fX x y)=ln x:=by unfold fX;split;(· rw [gQ]);(· rfl)
theorem BD:ln (fJ y)=ln y:=by unfold fJ;split;(· rw [gQ]);(· rfl)
theorem GE (h:(wd m).length≤n):dR m≤64*n:=by
 refine u3 ?_;have h1:=nZ m;have h2:m<WB^n:=dA h1 (fZ iM h);rw [nJ] at h2;rw [Nat.pow_mul];exact h2
def LRF (K b lb:Nat)(zs:List Int)(v:aF)(w:a6):Prop:=∃A cap,v= up A zs.length cap∧Lz none K b w lb A zs.length cap zs
theorem a1F {nd:Nat}(hx:Zi w sa Aa na ca x)(la:na≤1048576)(hy:Zi w sd Ad nd cd y)(ld:nd≤1048576)(h0:y=0):aQ aM 42 #[a9 sa Aa na ca sd Ad nd cd] w (Gv w (T2 (Is (up none 0 0)) (Is (no 4)))):=by
 have Lx:=bP hx la;have Ly:=bP hy ld;refine bU Tryz.func42 41 J (sr (bx [.bool sa,up Aa na ca,.bool sd,up Ad nd cd] bN J J J fun E _ o _ _ G=>(aE 2 J (aD (f9 [(0,a9 sa Aa na ca sd Ad nd cd),(1,i5 E 0),(2,up none 0 0),(3,no 0)] (aP J) (PM cM 24 [F0,S0] (a5 sa Aa na ca) (a5 sd Ad nd cd) 4 6 1 5 7 3 [i5 E 0,O sa Aa na ca,i5 E 2,O sd Ad nd cd,undef,undef,undef,undef] [0,1,2,3] [[],[0],[],[2],[],[],[],[]] [[],[0],[],[2],[],[],[0,1,4,5],[0,1,2,3,4,5,6]] [(0,0),(0,1),(0,2),(1,0),(1,1),(1,2),(2,0),(2,1),(2,2),(3,0),(3,1),(3,2),(4,0),(4,1),(4,2),(5,0),(5,1),(5,2),(6,0),(6,1),(6,2),(7,0),(7,1),(7,2)] J J (B9 J (z:= .agg #[F0,S0]) ye J) (B9 J (z:= .agg #[F0,S0]) ye J) (BP J J J J (fun _ _=>rfl) (fun _ _=>rfl) aB J J J) (BP J J J J (fun _ _=>rfl) (fun _ _=>rfl) aB J J J) ?_ ?_))))))
 ·refine rG J J J (fun _ _=>(iO J)) (rG J J J (fun _ W=>(cS J (bK aB (o.ext W) (a5 sa Aa na ca) J (bq J) J))) (rG J J J (fun _ _=>(iO J)) (rG J J J (fun _ M=>(cS J (bK aB (o.ext M) (a5 sd Ad nd cd) J (bq J) J))) ?_)));exact trivial
 intro H F _ V _ h f _ I;have Y:E<H:=dA o.lt h;have h:w.heap.size≤H:=a8 G.size h;have X:E<F:=dA o.lt f;have f:w.heap.size≤F:=a8 G.size f;have L:=G.trans V;refine fU [(0,a9 sa Aa na ca sd Ad nd cd),(1,i5 E 0),(2,up none 0 0),(3,no 0),(10,i5 E 0),(11,O sa Aa na ca),(12,i5 E 2),(13,O sd Ad nd cd),(4,i5 H 0),(5,i5 F 0)] (aP J) (aL (aD (sr (lo aB I (a5 sd Ad nd cd) J J J (aX L (jH (hy.ext L) (aJ ld J)) J ?_)))));rintro _ _ rfl _ U;refine aH J (DV h0) (aG (bC J (sr (aE 2 J (bA (cI (aZ [S0,no 4] J ⟨rfl,rfl,xl⟩ ?_)))))));exact⟨_,rfl,⟨_,_,rfl,rfl,rfl⟩,U⟩
theorem LRF.imp {v:aF}(hb:b≤b')(h:LRF K b' lb zs v w):LRF K b lb zs v w:=by
 obtain⟨A,c,h1,h2⟩:=h;exact⟨A,c,h1,h2.mono (aU _) hb (aU _)⟩
theorem MO (h0:y≠0):Low (nd (eA (fX x y) (fJ y))).1 (nd (eA (fX x y) (fJ y))).2 x y:=by
 obtain⟨g,hg,h1,h2⟩:=G4 (fX x y) (fJ y) (Int.le_of_lt (sF h0)) (cJ (sF h0));have H:=sF h0;generalize hp:(nd (eA (fX x y) (fJ y))).1=p at*;generalize hq:(nd (eA (fX x y) (fJ y))).2=q at*
 have h:0<q:=by
  refine Int.lt_of_not_ge fun hc=>?_
  have:g*q≤g*0:=Int.mul_le_mul_of_nonneg_left hc i9
  omega
 have F:p.natAbs≤(fX x y).natAbs:=by rw [h1,Int.natAbs_mul];exact Nat.le_mul_of_pos_left _ i9
 have G:q.natAbs≤(fJ y).natAbs:=by rw [h2,Int.natAbs_mul];exact Nat.le_mul_of_pos_left _ i9
 have E:(fX x y).natAbs=x.natAbs:=by unfold fX;split <;> omega
 have o:(fJ y).natAbs=y.natAbs:=by unfold fJ;split <;> omega
 refine⟨h,by rw [←hp,←hq];exact B2 _,?_,by omega,by omega⟩;have f:p*fJ y=fX x y*q:=by rw [h1,h2];grind
 unfold fX fJ at f;by_cases hn:y<0
 ·rw [if_pos hn,if_pos hn] at f;rw [Int.mul_neg,Int.neg_mul] at f;omega
 rw [if_neg hn,if_neg hn] at f;exact f
theorem a22 (h0:y≠0)(Lx:ln x≤1048576)(Ly:ln y≤1048576)(hzs:zs=eA (fX x y) (fJ y)):p8 zs∧zs.length≤200000000∧0<zs.length∧zs.getD 0 0=fX x y/fJ y∧(1<zs.length→1<zs.getD (zs.length-1) 0)∧(∀k,ln (nd (zs.drop k)).1≤2097150∧ln (nd (zs.drop k)).2≤2097150)∧Low (nd zs).1 (nd zs).2 x y:=by
 have G:=sF h0;have e:=mN (n:=fX x y) G;have o:=MO (x:=x) h0;rw [←hzs] at o
 have F:zs.length≤200000000:=by
  rw [hzs]
  refine a8 (G5 _ _ (Int.le_of_lt G)) ?_
  have h:=Ly
  rw [←BD] at h
  have:=GE (m:=(fJ y).natAbs) (n:=1048576) h
  omega
 have f:0<zs.length:=by rw [hzs,e,fO];omega
 have E:∀i,1≤i→i<zs.length→0<zs.getD i 0:=fun i h1 h2=>by
  have:=a2X (n:=fX x y) G (zs.getD i 0) (by
   rw [←hzs]
   have L:zs.getD i 0=(zs.drop 1).getD (i-1) 0:=by
    rw [bL,bL,nO,show 1+(i-1)=i by omega]
   rw [L]
   have hl:i-1<(zs.drop 1).length:=by rw [iK];omega
   rw [bL,cT hl]
   exact oG _)
  omega
 refine⟨⟨fun h=>(by rw [h] at f;cases f),E⟩,F,f,by rw [hzs,e];rfl,fun h1=>?_,fun k=>?_,o⟩
 ·rw [hzs,e,fO] at h1;rw [hzs,e,fO,oF];have H:=kS (fX x y) (show fJ y≠0 by omega);have hb:=lU (fX x y) G
  have hr:0<fX x y%fJ y:=by
   rcases Int.lt_or_eq_of_le H with h | h
   ·exact h
   ·rw [←h,pY] at h1;simp at h1
  have:=a21 (fJ y) (fX x y%fJ y) H hr hb;obtain⟨k,I⟩:∃k,(eA (fJ y) (fX x y%fJ y)).length=k+1:=⟨(eA (fJ y) (fX x y%fJ y)).length-1,by omega⟩;rw [I,oF] at this;rw [I];exact this
 rw [hzs];have:=a20 (n:=fX x y) G (N:=1048576) (by rw [N4];exact Lx) (by rw [BD];exact Ly) k;omega
theorem DT (h:0<z):cQ .lss (bM z 0) 1=some false:=by
 have e:=t8.2 h;simp only [cQ,f7,decide_eq_false_iff_not];omega
theorem LB (hb:b≤w.heap.size)(hx:Zi w s A n cap x)(hl:n≤1048576)(hy:Zi w t B m cap' y)(hl':m≤1048576)(h0:0<y):aQ aM 61 #[O s A n cap,O t B m cap'] w (Gv w (T3 (ZR b (x/y)) (ZR b (x%y)) (Is (no 0)))):=by
 have h:=F6 hb hx hl hy hl';have hs:=FO (x:=x) (y:=y);have E:=hs.eq;obtain⟨f,o⟩:=(Int.ediv_emod_unique (b:=y) h0).2 ⟨show rF x y+y*qF x y=x by rw [Int.mul_comm];omega,hs.pos h0⟩;rw [show eZ y=0 from if_neg i9] at h;rw [f,o];exact h
theorem a2Y {g:Int}(hg:0<g):∀n d:Int,0≤d→eA (g*n) (g*d)=eA n d:=by
 refine yF (P:=fun n d=>eA (g*n) (g*d)=eA n d) (fun n=>by rw [Int.mul_zero,pY,pY]) fun n d f ih=>?_;rw [mN f,mN (Int.mul_pos hg f),Int.mul_ediv_mul_of_pos _ _ hg,Int.mul_emod_mul_of_pos _ _ hg,ih]
theorem PW (h:Low p q x y):eA p q=eA (fX x y) (fJ y):=by
 obtain⟨h0,o,F⟩:=F2 h;obtain⟨_,f,E⟩:=F2 (MO (x:=x) h0);obtain⟨g,hg,h1,h2⟩:=G4 (fX x y) (fJ y) (Int.le_of_lt (sF h0)) (cJ (sF h0));rw [f,←o] at h1;rw [E,←F] at h2;rw [h1,h2,a2Y hg p q (Int.le_of_lt h.pos)]
theorem XR {nd:Nat}(hx:Zi w sa Aa na ca x)(la:na≤1048576)(hy:Zi w sd Ad nd cd y)(ld:nd≤1048576)(h0:y=0):aQ aM 28 #[a9 sa Aa na ca sd Ad nd cd] w (Gv w (T2 (Is (up none 0 0)) (Is (no 4)))):=by
 have Lx:=bP hx la;have Ly:=bP hy ld;refine bU Tryz.func28 44 J (sr (bx [.bool sa,up Aa na ca,.bool sd,up Ad nd cd] bN J J J fun Z _ h _ _ f=>(aE 2 J (sr (pf Z 0 J (lo aB h (a5 sa Aa na ca) J J J (pf Z 2 J (lo aB h (a5 sd Ad nd cd) J J J (aX f (EC f.size h0 (hx.ext f) (aJ la J) (hy.ext f) (aJ ld J)) J ?_)))))))));rintro _ _ ⟨_,_,rfl,⟨G,U,L,H,I,V,F,E,rfl,_,_⟩,rfl⟩ e7 W;refine mv 1 J (aA (a9 G U L H I V F E) J (aA (no 4) J (bV [F0,S0,F0,S0] W (h.ext e7).lt J fun _ _ M o _ _ X=>(so bJ M [.bool G,up U L H,.bool I,up V F E] X o J J J J fun _ _ _ Y=>(aE 1 J (aD (aV 1 J (fP J J J true (aG (bC J (aD ?_)))))))))));refine bH (aE 3 J (bA (cI (aZ [S0,no 4] J ⟨rfl,rfl,xl⟩ ?_))));exact⟨_,rfl,⟨_,_,rfl,rfl,rfl⟩,Y⟩
theorem XT {nd:Nat}(hx:Zi w sa Aa na ca x)(la:na≤1048576)(hy:Zi w sd Ad nd cd y)(ld:nd≤1048576)(hlow:Low p q x y):aQ aM 28 #[a9 sa Aa na ca sd Ad nd cd] w (Gv w (T2 (LRF 1048579 w.heap.size w.heap.size (eA p q)) (Is (no 0)))):=by
 have Lx:=bP hx la;have Ly:=bP hy ld;have Lp:ln p≤1048576:=a8 (fR hlow.np) Lx;have Lq:ln q≤1048576:=a8 (fR hlow.nq) Ly;have je:=hlow.pos;refine bU Tryz.func28 44 J (sr (bx [.bool sa,up Aa na ca,.bool sd,up Ad nd cd] bN J J J fun g1 _ dz _ _ Z=>(aE 2 J (sr (pf g1 0 J (lo aB dz (a5 sa Aa na ca) J J J (pf g1 2 J (lo aB dz (a5 sd Ad nd cd) J J J (aX Z (AP Z.size hlow (hx.ext Z) (aJ la J) (hy.ext Z) (aJ ld J)) J ?_)))))))));rintro _ _ ⟨_,_,rfl,⟨bh,bu,cj,de,ba,bj,cv,bm,rfl,fq,gb⟩,rfl⟩ e7 ag;refine mv 1 J (aA (a9 bh bu cj de ba bj cv bm) J (aA (no 0) J (bV [F0,S0,F0,S0] ag (dz.ext e7).lt J fun fa _ cz ga _ fg dr=>(so bJ cz [.bool bh,up bu cj de,.bool ba,up bj cv bm] dr ga J J J J fun _ am fd dw=>(aE 1 J (aD (aV 1 J (fP J J J false (aG (aT J (bB ?_)))))))))));refine aL (sr (pf fa 0 J (lo aB am (a5 bh bu cj de) J J J (bV [F0,S0] dw am.lt J fun bi _ av ef _ iB fk=>(so aB av (a5 bh bu cj de) fk ef J J J J fun _ ct bw fh=>(aG (sr (pf fa 2 J (lo aB ((am.ext iB).vN bw) (a5 ba bj cv bm) J J J (bV [F0,S0] fh ct.lt J fun aq _ ch en _ au dx=>(so aB ch (a5 ba bj cv bm) dx en J J J J fun ci em ar dy=>(aG (aD ?_)))))))))))));refine bH (aE 1 J (aD (bO ?_)));have jc:(eA p q).length≤200000000:=a8 (G5 _ _ (Int.le_of_lt hlow.pos)) (by have:=GE (m:=q.natAbs) (n:=1048576) Lq;omega);obtain⟨ao,fj,_,fb,_,_,_,_⟩:∃lb,lb≤ci.heap.size∧ci.heap.size≤lb∧w.heap.size≤lb∧g1<lb∧fa<lb∧bi<lb∧aq<lb:=⟨ci.heap.size,aU _,aU _,dy.size,((((((dz.ext (e7.t fg)).vN fd).ext iB).vN bw).ext au).vN ar).lt,((((am.ext iB).vN bw).ext au).vN ar).lt,((ct.ext au).vN ar).lt,em.lt⟩;refine dC (T:=a6×Int×Int×List Int×Option a7×Nat×Nat×ZC×ZC) (fun⟨L,nn,dd,pre,LA,V,lc,n4,o⟩=> [(6,i5 bi 0),(7,i5 aq 0),(8,up LA V lc)]) (fun⟨L,nn,dd,pre,LA,V,lc,n4,o⟩=>L) (fun⟨L,nn,dd,pre,LA,V,lc,n4,o⟩=>(Ext w L)∧(pre++eA nn dd=eA p q)∧(0≤dd)∧(ln nn≤1048576)∧(ln dd≤1048576)∧(Lz none 1048579 w.heap.size L ao LA V lc pre)∧(ao≤L.heap.size)∧(Bk L bi 24 (a5 n4.s n4.A n4.n n4.c))∧(Bk L aq 24 (a5 o.s o.A o.n o.c))∧(El (some w) w.heap.size L n4 nn)∧(El (some w) w.heap.size L o dd)∧(n4.n≤1048576)∧(o.n≤1048576)) (fun⟨L,nn,dd,pre,LA,V,lc,n4,o⟩=>dd.toNat) (⟨ci,p,q,[],none,0,0,⟨bh,bu,cj,de⟩,⟨ba,bj,cv,bm⟩⟩:a6×Int×Int×List Int×Option a7×Nat×Nat×ZC×ZC) ⟨dy,(by rw [List.nil_append]),(Int.le_of_lt hlow.pos),(aJ Lp J),(aJ Lq J),(Lz.nil none 1048579 w.heap.size ci ao),fj,((ct.ext au).vN ar),em,(cJ ((((((fq.ext fg).updT cz fd).ext iB).updT av bw).ext au).updT ch ar)),(cJ ((((((gb.ext fg).updT cz fd).ext iB).updT av bw).ext au).updT ch ar)),(fq.le (aJ Lp J)),(gb.le (aJ Lq J))⟩ J (aP J) ?_;rintro⟨L,nn,dd,pre,LA,V,lc,n4,o⟩ ⟨Z,hI,_,io,fi,ab,ej,b_4,b_5,ie,dm,ik,ee⟩;refine fW [(6,i5 bi 0),(7,i5 aq 0),(8,up LA V lc)] L J (aP J) ?_;have fc:=ab.block;have il:=ab.len;have iz:V≤200000000:=by have h:=congrArg List.length hI;rw [f8] at h;omega
 have eh:∀p,LA=some p→p.block≠bi:=fun p hp=>by have:=ab.block p hp;omega
 have df:∀p,LA=some p→p.block≠aq:=fun p hp=>by have:=ab.block p hp;omega
 refine aD (aD ?_);by_cases ir:dd≠0
 ·have du:0<dd:=by omega
  refine bH (lo aB b_5 (a5 o.s o.A o.n o.c) J J J (aX Z (gR (dm.zi Z) (aJ ee J)) J ?_));rintro _ _ rfl f ag;refine aH J (qI ir) (aG (bC J (bB (aL (bO (sr (lo aB (b_4.ext f) (a5 n4.s n4.A n4.n n4.c) J J J (lo aB (b_5.ext f) (a5 o.s o.A o.n o.c) J J J (aX ag (LB ag.size ((ie.ext f).zi ag) (aJ ik J) ((dm.ext f).zi ag) (aJ ee J) du) J ?_)))))))));rintro _ _ ⟨_,_,_,rfl,⟨dg,cp,aw,bp,rfl,fy⟩,⟨br,az,bo,bd,rfl,fp⟩,rfl⟩ I dr;refine mv 1 J (aA (O dg cp aw bp) J (aA (O br az bo bd) J (aA (no 0) J (iL J (z:= .agg #[F0,S0]) (vs:= [F0,S0]) ye J fun dl _ nb=>?_))));have ei:=nb.bk;have ge:w.heap.size≤dl:=by rw [←nb.at_];exact dr.size
  have jd:aq<dl:=by rw [←nb.at_];exact (b_5.ext (f.t I)).lt
  have dh:∀p,LA=some p→p.block≠dl:=fun p hp=>by have:=((ab.ext (f.t I))).block p hp;have:=nb.at_;omega
  have H:=nb.ext;clear nb;have dw:=dr.trans H;refine iL J (z:= .agg #[F0,S0]) (vs:= [F0,S0]) ye J fun dt _ nb=>?_;have fw:=nb.bk;have ft:w.heap.size≤dt:=by rw [←nb.at_];exact dw.size
  have ja:dl<dt:=by rw [←nb.at_];exact ei.lt
  have aj:∀p,LA=some p→p.block≠dt:=fun p hp=>by have:=((ab.ext (f.t (I.t H)))).block p hp;have:=nb.at_;omega
  have F:=nb.ext;clear nb;have fk:=dw.trans F;have Y:=(ei.ext F);refine so aB Y (a5 dg cp aw bp) fk ge J J J J fun _ el M fh=>?_;have W:=(fw.vN M);refine so aB W (a5 br az bo bd) fh ft J J J J fun _ bg G dx=>(aE 1 J (aV 1 J (lo aB (el.vN G) (a5 dg cp aw bp) J J J (iF J J (k:=1) (e:=24) (a5 dg cp aw bp) ye fun fe _ nb=>?_))));have ez:=nb.bk;have iy:w.heap.size≤fe:=by rw [←nb.at_];exact dx.size
  have jb:dt<fe:=by rw [←nb.at_];exact bg.lt
  have gi:∀p,LA=some p→p.block≠fe:=fun p hp=>by have:=((((ab.ext (f.t (I.t (H.t F)))).updT Y M dh).updT W G aj)).block p hp;have:=nb.at_;omega
  have E:=nb.ext;clear nb;have dy:=dx.trans E;have ew:=((((ab.ext (f.t (I.t (H.t F)))).updT Y M dh).updT W G aj).ext E);obtain⟨_,bf⟩:=ew.own;refine SK (e:=⟨dg,cp,aw,bp⟩) (z:=nn/dd) J J J ew (a8 (a8 (a8 (a8 (a8 (a8 (a8 ej f.size) I.size) H.size) F.size) M.by_.size) G.by_.size) E.size) ez (cJ ((((fy.ext (H.t F)).updT Y M).updT W G).ext E)) (fy.le (a8 (MY du io yd) yd)) i9 yd fun ij gy ia eg U ah=>?_;have iu:=U.ext dy (fun p hp=>by have:=fc p hp;omega);have cm:ao≤ia.heap.size:=a8 (a8 (a8 (a8 (a8 (a8 (a8 (a8 ej f.size) I.size) H.size) F.size) M.by_.size) G.by_.size) E.size) U.size;have fx:=pU ah ((((b_4.ext (f.t (I.t (H.t F)))).vN M).vN G).ext E).lt eh;have fz:=pU ah ((((b_5.ext (f.t (I.t (H.t F)))).vN M).vN G).ext E).lt df;have iw:=pU ah ((el.vN G).ext E).lt dh;have ib:=pU ah (bg.ext E).lt aj;have iq:=pU ah ez.lt gi;have gx:=eg.block;refine aE 1 J (sr (lo aB (((((b_5.ext (f.t (I.t (H.t F)))).vN M).vN G).ext E).updO U df) (a5 o.s o.A o.n o.c) J J J ?_));have aa:=(((((b_4.ext (f.t (I.t (H.t F)))).vN M).vN G).ext E).updO U eh);refine so aB aa (a5 o.s o.A o.n o.c) iu ef J J J J fun _ fo X gj=>(aG (bH (lo aB (((bg.ext E).updO U aj).vN X) (a5 br az bo bd) J J J ?_)));have ae:=((((((b_5.ext (f.t (I.t (H.t F)))).vN M).vN G).ext E).updO U df).vN X);refine so aB ae (a5 br az bo bd) gj en J J J J fun go fm ai gk=>(cF (bT (cP (⟨go,dd,nn%dd,pre++ [nn/dd],ij,V+1,gy,⟨o.s,o.A,o.n,o.c⟩,⟨br,az,bo,bd⟩⟩:a6×Int×Int×List Int×Option a7×Nat×Nat×ZC×ZC) ⟨gk,(by rw [List.append_assoc,←hI,mN du];rfl),(kS _ i9),fi,(a8 (a8 (tL) fi) yd),((eg.updT aa X fx).updT ae ai fz),(a8 (a8 cm X.by_.size) ai.by_.size),(fo.vN ai),fm,(((((((dm.ext (f.t (I.t (H.t F)))).updT Y M).updT W G).ext E).updOT bf U).updT aa X).updT ae ai),(cJ (((((((fp.ext (H.t F)).updT Y M).updT W G).ext E).updOT bf U).updT aa X).updT ae ai)),(aJ ee J),(fp.le (a8 (a8 (tL) fi) yd))⟩ (show (nn%dd).toNat<dd.toNat by have h1:=lU nn du;omega) J (aP J))))
 have gf:dd=0:=by omega
 rw [gf,pY,m7] at hI;refine bH (lo aB b_5 (a5 o.s o.A o.n o.c) J J J (aX Z (gR (dm.zi Z) (aJ ee J)) J ?_));rintro _ _ rfl fv ag;refine aH J (rJ i9) (aG (aT J (d9 (cY (d7 (d8 (aL (sr (aE 3 J (bA (aZ [up LA V lc,I0] J ⟨rfl,rfl,xl⟩ ?_)))))))))));have ey:=((ab.ext fv)).mono (aU _) (aU _) fb;rw [hI] at ey;have hn:V=(eA p q).length:=by rw [←hI];exact il.symm
 subst hn;exact⟨_,rfl,⟨_,_,rfl,⟨_,_,rfl,ey⟩,rfl⟩,ag⟩
theorem JN (h:z≤0):cQ .lss (bM z 0) 1=some true:=by
 have e:¬0<bM z 0:=fun hc=>by have:=t8.1 hc;omega
 simp only [cQ,f7,decide_eq_true_eq];omega
theorem M5 (z:Int):nd [z]=(z,1):=by
 show (z*1+0,(1:Int))=_;rw [Int.mul_one,Int.add_zero]
theorem P9 (hl:zs.length=n)(h0:0<n):zs.drop (n-1)= [zs.getD (n-1) 0]:=by
 rw [tY,List.drop_of_length_le i9]
theorem ZM (h:0<(nd zs).2):Low (nd zs).1 (nd zs).2 (nd zs).1 (nd zs).2:=⟨h,B2 zs,rfl,aU _,aU _⟩
theorem XG (hb:b≤w.heap.size)(hl:Zl w A n cap zs ms)(hn:n≤1048576)(hmb:∀i,ms.getD i 0≤1048576)(hf:¬p8 zs):aQ aM 29 #[up A n cap] w (Gv w (T2 (FR b 0 0) (Is (no 3)))):=by
 refine bU Tryz.func29 55 J (sr (nI [F0,S0,F0,S0] bN J fun g1 v2 M W _ f=>(aE 1 J (aD (aD ?_)))));by_cases hz:n=0
 ·refine aK 1 J (aA (no n) J (aH J (gZ n 0 J) (aG (bC J (sr (aA (.agg #[F0,S0,F0,S0]) J (so bJ M [F0,S0,F0,S0] f W J J J J fun _ ae _ h=>(aE 1 J (bA (cI (aZ [.agg #[F0,S0,F0,S0],no 3] J ⟨⟨_,rfl,bK bJ ae [F0,S0,F0,S0] J (bq J) rfl⟩,rfl,xl⟩ ?_)))))))))));exact⟨_,rfl,⟨_,_,rfl,⟨_,_,_,_,_,_,_,_,rfl,Zr.zero,Zr.zero⟩,rfl⟩,h⟩
 have aj:0<n:=by omega
 refine aK 1 J (aA (no n) J (aH J (hJ n 0 J) (aG (aT J (bB (aL (aD (sr (aE 1 J (bO ?_))))))))));refine dC (T:=a6×Nat) (fun⟨wr,i⟩=> [(0,up A n cap),(2,i5 g1 0),(3,no 0),(4,no i)]) (fun⟨wr,i⟩=>wr) (fun⟨wr,i⟩=>(Ext w wr)∧(1≤i)∧(i≤n)∧(∀j,1≤j→j<i→0<zs.getD j 0)∧(Bk wr g1 26 [F0,S0,F0,S0])) (fun⟨wr,i⟩=>n-i) (⟨v2,1⟩:a6×Nat) ⟨f,aU _,i9,(fun j h1 h2=>by omega),M⟩ J (aP J) ?_;rintro⟨wr,i⟩ ⟨f,_,_,o,b_2⟩;refine aD (aD ?_);by_cases ak:i<n
 ·refine aK 2 J (aA (no n) J (aH J (dV i n J) (aG (bC J (bB (aL (aD (bO (aD ?_)))))))));by_cases hx:zs.getD i 0≤0
  ·refine aK 2 J ?_;obtain⟨U,_,_,_,F,G,I⟩:=hl.at (i:=i) i9;refine cA fI aB.size i U F J (bG (G _ f _ _ aB) J (aX f (gR (I.ext f) (a8 (hmb i) yd)) J ?_));rintro _ _ rfl Y h;refine aH J (JN hx) (aG (bC J (sr (aA (.agg #[F0,S0,F0,S0]) J ?_))));refine so bJ (b_2.ext Y) [F0,S0,F0,S0] h W J J J J fun _ X _ Z=>(aE 1 J (bA (gV (cI (oC (gV (cI (aZ [.agg #[F0,S0,F0,S0],no 3] J ⟨⟨_,rfl,bK bJ X [F0,S0,F0,S0] J (bq J) rfl⟩,rfl,xl⟩ ?_))))))));exact⟨_,rfl,⟨_,_,rfl,⟨_,_,_,_,_,_,_,_,rfl,Zr.zero,Zr.zero⟩,rfl⟩,Z⟩
  refine aK 2 J ?_;obtain⟨L,_,_,_,E,H,V⟩:=hl.at (i:=i) i9;refine cA fI aB.size i L E J (bG (H _ f _ _ aB) J (aX f (gR (V.ext f) (a8 (hmb i) yd)) J ?_));rintro _ aa rfl ab h;refine aH rfl (DT i9) (aG (aT rfl (bB (bT (aL (aK 1 rfl (bD rfl (cK i 1 rfl) (bS 1 rfl (cP (⟨aa,i+1⟩:a6×Nat) ⟨h,i9,i9,(fun j h1 h2=>by rcases kQ j i with h3 | h3;exact o j h1 h3;obtain rfl:j=i:=i9;omega),(b_2.ext ab)⟩ (show n-(i+1)<n-i by omega) rfl (aP rfl))))))))))
 exact absurd ⟨fun e=>by have h5:=hl.len;rw [e] at h5;have h6:n=0:=h5.symm;omega,fun j h1 h2=>o j h1 (by rw [hl.len] at h2;omega)⟩ hf
theorem XH (hb:b≤w.heap.size)(hl:Zl w A n cap zs ms)(hn:n≤1048576)(hmb:∀i,ms.getD i 0≤1048576)(hnd:∀k,ln (nd (zs.drop k)).1≤2097153∧ln (nd (zs.drop k)).2≤2097153)(hf:p8 zs)(hD:0<(nd zs).2):aQ aM 29 #[up A n cap] w (Gv w (T2 (FR b (nd zs).1 (nd zs).2) (Is (no 0)))):=by
 have en:0<n:=by rw [←hl.len];exact List.length_pos_iff.2 hf.1
 refine bU Tryz.func29 55 J (sr (nI [F0,S0,F0,S0] bN J fun g1 v2 fw fp _ o=>(aE 1 J (aD (aV 1 J (aA (no n) J (aH J (hJ n 0 J) (aG (aT J (bB ?_))))))))));refine aL (aD (sr (aE 1 J (bO ?_))));refine dC (T:=a6×Nat) (fun⟨wr,i⟩=> [(0,up A n cap),(2,i5 g1 0),(3,no 0),(4,no i)]) (fun⟨wr,i⟩=>wr) (fun⟨wr,i⟩=>(Ext w wr)∧(1≤i)∧(i≤n)∧(Bk wr g1 26 [F0,S0,F0,S0])) (fun⟨wr,i⟩=>n-i) (⟨v2,1⟩:a6×Nat) ⟨o,aU _,i9,fw⟩ J (aP J) ?_;rintro⟨wr,i⟩ ⟨o,fi,_,b_2⟩;refine aD (aD ?_);by_cases fe:i<n
 ·refine aK 2 J (aA (no n) J (aH J (dV i n J) (aG (bC J (bB (aL (aD (bO (aV 2 J ?_)))))))));obtain⟨fh,_,_,_,cz,ez,fy⟩:=hl.at (i:=i) i9;refine cA fI aB.size i fh cz J (bG (ez _ o _ _ aB) J (aX o (gR (fy.ext o) (a8 (hmb i) yd)) J ?_));rintro _ v7 rfl e8 E;refine aH J (DT (hf.2 i fi (by rw [hl.len];exact fe))) (aG (aT J (bB (bT (aL (aK 1 J (bD J (cK i 1 J) (bS 1 J (cP (⟨v7,i+1⟩:a6×Nat) ⟨E,i9,i9,(b_2.ext e8)⟩ (show n-(i+1)<n-i by omega) J (aP J))))))))))
 refine aK 2 J (aA (no n) J (aH J (dQ i n J) (aG (aT J (d9 (cY (d7 (d8 (aL (aV 2 J (aA (no n) J ?_)))))))))));refine bD J (iU n 1 J) ?_;obtain⟨dx,_,_,_,bp,ct,dt⟩:=hl.at (i:=n-1) i9;refine cA fI aB.size (n-1) dx bp J (bG (ct _ o _ _ aB) J (aX o (FL o.size (dt.ext o) (a8 (hmb (n-1)) yd)) J ?_));rintro _ _ ⟨dh,dz,de,ew,rfl,fo⟩ fa E;refine bV [F0,S0] E (b_2.ext fa).lt J fun ey _ bo bh _ du ao=>(so aB bo (a5 dh dz de ew) ao bh J J J J fun _ bm eg ba=>(aG (sr (bI [no 1] ba (nF (n:=1) ba.size) J ?_))));rintro _ _ ⟨dr,el,ef,ee,rfl,fx⟩ az cp;refine bV [F0,S0] cp (bm.ext az).lt J fun ch _ aq bf _ aw fq=>(so aB aq (a5 dr el ef ee) fq bf J J J J fun fk ei bd fj=>(aG (aD (aV 1 J (aA (no n) J (eC J J J (((n:Nat):Int)-2) (fS J) (aE 1 J (bO ?_))))))));refine dC (T:=a6×Nat×Int×ZC×ZC) (fun⟨wr,k,ii,f,k1⟩=> [(0,up A n cap),(2,i5 g1 0),(3,no 0),(5,i5 ey 0),(6,i5 ch 0),(7,no ii)]) (fun⟨wr,k,ii,f,k1⟩=>wr) (fun⟨wr,k,ii,f,k1⟩=>(Ext w wr)∧(k<n)∧(ii=(k:Int)-1)∧(Bk wr g1 26 [F0,S0,F0,S0])∧(Bk wr ey 24 (a5 f.s f.A f.n f.c))∧(Bk wr ch 24 (a5 k1.s k1.A k1.n k1.c))∧(Zr wr w.heap.size f.s f.A f.n f.c (nd (zs.drop k)).1)∧(Zr wr w.heap.size k1.s k1.A k1.n k1.c (nd (zs.drop k)).2)) (fun⟨wr,k,ii,f,k1⟩=>k) (⟨fk,n-1,_,⟨dh,dz,de,ew⟩,⟨dr,el,ef,ee⟩⟩:a6×Nat×Int×ZC×ZC) ⟨fj,i9,i9,((((b_2.ext (fa.t du)).vN eg).ext (az.t aw)).vN bd),((bm.ext (az.t aw)).vN bd),ei,(((((fo.ext du).updT bo eg).ext (az.t aw)).updT aq bd)).cast (by rw [P9 hl.len en,M5]),(((fx.ext aw).updT aq bd)).cast (by rw [P9 hl.len en,M5])⟩ J (aP J) ?_;rintro⟨wr,k,ii,f,k1⟩ ⟨o,_,_,b_2,b_5,b_6,ar,av⟩;refine aD (aD ?_);by_cases gf:0<k
 ·obtain⟨j,rfl⟩:∃j,k=j+1:=⟨k-1,by omega⟩;obtain rfl:ii=(j:Int):=by omega
  refine aK 1 J (aH J (i8 j 0 J) (aG (bC J (bB (aL (aD (bO (aD ?_))))))));obtain⟨bg,da,em,eh,bu,ci,dy⟩:=hl.at (i:=j) i9;refine dW cM 8 [] [Is (up A n cap),Is (no j),Is (.pointer (some bg)),Is (.agg #[.bool da,up em (ms.getD j 0) eh]),Is (O f.s f.A f.n f.c),Is (O k1.s k1.A k1.n k1.c),ZR w.heap.size ((zs.getD j 0)*((nd (zs.drop (j+1))).1)+((nd (zs.drop (j+1))).2)),PR wr.heap.size 24 [F0,S0]] [[],[],[0,1],[2],[],[],[3,4,5],[]] rfl (bY J ?_ ?_ ?_ ?_ (bY J ?_ ?_ ?_ ?_ dN)) ?_
  ·exact fun _ _=>aC (mv 1 J (aI J))
  ·exact fun _ _=>aC (mv 1 J (aI J))
  ·exact fun _ _=>aY J (aC (cA fI aB.size j bg bu J (aI J)))
  ·intro _ fd;have E:=o.trans fd;exact aO J (aC (bG (ci _ E _ _ aB) J (aI J)))
  ·exact fun _ fc=>aC (lo aB (b_5.ext fc) (a5 f.s f.A f.n f.c) J J J (aI J))
  ·exact fun _ fm=>aC (lo aB (b_6.ext fm) (a5 k1.s k1.A k1.n k1.c) J J J (aI J))
  ·intro _ br;have E:=o.trans br;refine aY J (aO J (aC (aX E (OL E.size (dy.ext E) (a8 (hmb j) yd) (ar.ext br).zi (ar.le (a8 (hnd (j+1)).1 yd)) (av.ext br).zi (av.le (a8 (hnd (j+1)).2 yd))) J ?_)));rintro _ _ ⟨_,_,_,_,rfl,fg⟩ fv ao;exact bQ J fv ⟨_,_,_,_,rfl,fg⟩
  ·intro _ ft;refine aC (iL J (z:= .agg #[F0,S0]) (vs:= [F0,S0]) ye J fun _ _ nb=>?_);exact bQ J nb.ext ⟨_,rfl,by rw [←nb.at_];exact ft.size,nb.bk⟩
  intro _ am;have E:=o.trans am;refine d6 J (aY J (aW J ?_));rintro _ _ ⟨ab,ae,aj,ak,rfl,au⟩ _ dw;have au:=au.ext dw;refine aW J ?_;rintro _ _ ⟨bj,rfl,H,F⟩ _ df;have F:=F.ext df;have fz:ch<bj:=dA b_6.lt H;have H:w.heap.size≤bj:=a8 o.size H;refine aC (so aB F (a5 ab ae aj ak) E H J J J J fun _ cm G ao=>(cF (dM (aL (sr (lo aB ((b_5.ext am).vN G) (a5 f.s f.A f.n f.c) J J J ?_))))));have M:=((b_6.ext am).vN G);refine so aB M (a5 f.s f.A f.n f.c) ao bf J J J J fun _ cv I ba=>(aG (bH (lo aB (cm.vN I) (a5 ab ae aj ak) J J J ?_)));have L:=(((b_5.ext am).vN G).vN I);refine so aB L (a5 ab ae aj ak) ba bh J J J J fun dl bw ag cp=>(cF (bT (aL (aK 1 J (eC J J J (((j:Nat):Int)-1) (fS J) (bS 1 J (cP (⟨dl,j,(j:Int)-1,⟨ab,ae,aj,ak⟩,⟨f.s,f.A,f.n,f.c⟩⟩:a6×Nat×Int×ZC×ZC) ⟨cp,i9,rfl,((((b_2.ext am).vN G).vN I).vN ag),bw,(cv.vN ag),((((au.updT F G).updT M I).updT L ag)).cast (by rw [tY (zs:=zs) (i:=j) (h:=(by rw [hl.len];omega))];rfl),(((((ar.ext am).updT F G).updT M I).updT L ag)).cast (by rw [tY (zs:=zs) (i:=j) (h:=(by rw [hl.len];omega))];rfl)⟩ (show j<j+1 by omega) J (aP J))))))))
 obtain rfl:k=0:=by omega
 refine aK 1 J (aH J (mJ) (aG (aT J (d9 (cY (d7 (d8 (aL (sr (lo aB b_5 (a5 f.s f.A f.n f.c) J J J (lo aB b_6 (a5 k1.s k1.A k1.n k1.c) J J J (aX o (AP o.size (ZM hD) ar.zi (ar.le (a8 (hnd 0).1 yd)) av.zi (av.le (a8 (hnd 0).2 yd))) J ?_))))))))))));rintro _ _ ⟨_,_,rfl,⟨V,ai,X,Y,aa,ah,Z,W,rfl,ej,dg⟩,rfl⟩ dm E;refine aA (a9 V ai X Y aa ah Z W) J (aA (no 0) J ?_);have U:=(b_2.ext dm);refine so bJ U [.bool V,up ai X Y,.bool aa,up ah Z W] E fp J J J J fun _ cj bi ao=>(aE 1 J (bA (aZ [a9 V ai X Y aa ah Z W,I0] J ⟨⟨_,rfl,bK bJ cj [.bool V,up ai X Y,.bool aa,up ah Z W] J (bq J) rfl⟩,rfl,xl⟩ ?_)));exact⟨_,rfl,⟨_,_,rfl,⟨_,_,_,_,_,_,_,_,rfl,((ej.updT U bi)).mono hb,((dg.updT U bi)).mono hb⟩,rfl⟩,ao⟩
theorem a19 {q:Nat}(h:q<l.length):l.drop q=l.getD q 0::l.drop (q+1):=by rw [pF h,bL,cT h];rfl
def xT (i:Nat):Nat:=6510516211317473280+i
def k9 (xs:List Nat):List Nat:=xs++(eI 80).map fun k=>xT (xs.length+k)
theorem E5 (xs:List Nat):(k9 xs).length=xs.length+80:=by unfold k9;rw [f8,List.length_map,List.length_range]
theorem KB (h:i<xs.length):(k9 xs).getD i 0=xs.getD i 0:=by
 unfold k9;rw [bL,List.getElem?_append_left h,←bL]
theorem KC (h:xs.length≤i)(h2:i<xs.length+80):(k9 xs).getD i 0=xT i:=by
 unfold k9;rw [bL,List.getElem?_append_right h,jM,List.getElem?_range i9];show xT _=_;congr 1;omega
theorem KA (hl:l.length=xs.length+80)(hi:i<xs.length+80)(h:l.take i=(k9 xs).take i):(l.set i ((k9 xs).getD i 0)).take (i+1)=(k9 xs).take (i+1):=by
 rw [List.take_add_one,List.take_add_one,List.take_set_of_le (aU _),h,List.getElem?_set_self i9,cT (by rw [E5];exact hi),bL,cT (by rw [E5];exact hi)];rfl
section
variable {P:cO}{Q:dX→Act→a6→Prop}{n:Nat}{l:Fr}{w:a6}{ops:Array bE}{rest:List bE}{d:Nat}{ty:aS}{pos:String}{af:Array fL}
theorem SG {x y:cR}{e t:aS}{dLen dCap sLen sCap:Nat}(hx:cB l x=some (up dp dLen dCap))(hy:cB l y=some (up sp sLen sCap))(hu:P.underlying T=some (.slice e))(hsz:(P.info? e).map (·.size)=some 1)(hg:Bk w g t vs)(hsrc:Rv w 1 sp sLen sCap us)(hpos:0<dLen→dp=some ⟨g,0,none⟩)(hfit:0+dLen≤vs.length)(h1:∀v∈us,v.oneCell'=true)(hn:d<n)(k:∀w',Bk w' g t (splice vs 0 (us.take dLen))→Upd g w w'→wl P ops Q n rest ((d,no (min sLen dLen:Nat))::l) w'):wl P ops Q n (⟨some d,.call {callee:= .builtin .copy,args:= #[x,y],argTypes:= #[T,T]},ty,pos,af,none⟩::rest) l w:=fun _ f=>
 zF J x y T T J (f.ev hx) (f.ev hy) hu hsz hg hsrc hpos hfit h1 fun w' h2 h=>k w' h2 h _ (f.put hn _)
end
theorem a2A (hb:2≤b)(X:Nat):∀j,(db b X).getD j 0=X/b^j%b:=by
 induction X using C1 hb with
 | h0=>intro j;rw [lC,Nat.zero_div,Nat.zero_mod];rfl
 | hs n h ih=>
  intro j
  rw [nG hb h]
  cases j with
  | zero=>rw [Nat.pow_zero,Nat.div_one];rfl
  | succ j=>rw [dS,Nat.mul_comm,←Nat.div_div_eq_div_mul];exact ih j
theorem a2N (hx:lx.length=N)(hy:ly.length=N):splice (lx.map bF) 0 ((ly.map bF).take N)=ly.map bF:=by
 unfold splice;rw [List.take_zero,List.nil_append,eR,List.take_of_length_le (by rw [List.length_map];omega),List.length_map,List.drop_of_length_le (by rw [List.length_map];omega),m7]
theorem YQ:∀v∈xs.map bF,v.oneCell'=true:=fun v f=>by
 obtain⟨x,_,rfl⟩:=List.mem_map.1 f
 rfl
theorem UG {L s:Nat}(hX:X<4294967296^L)(hn:n=L/2+2)(hs:s*s≤X):8*s+8≤4294967296^n:=by
 have h1:s<4294967296^(n-1):=by
  refine pC fun h=>?_
  have h2:=kP h h
  rw [←eS] at h2
  have f:4294967296^L≤4294967296^(n-1+(n-1)):=fZ yd i9
  omega
 obtain⟨k,rfl⟩:∃k,n=k+1:=⟨n-1,by omega⟩;rw [oF] at h1;rw [dS];omega
theorem UI:(db 4294967296 X).getD (i/16) 0/2^(2*(i%16))%4=X/4^i%4:=by
 rw [a2A hZ];have h:(4294967296:Nat)^(i/16)=2^(32*(i/16)):=by rw [Nat.pow_mul]
 have f:(4:Nat)^i=2^(32*(i/16))*2^(2*(i%16)):=by
  rw [←eS,show 32*(i/16)+2*(i%16)=2*i by omega,Nat.pow_mul]
 rw [h,f,←Nat.div_div_eq_div_mul];generalize X/2^(32*(i/16))=Z
 have o:(4294967296:Nat)=2^(2*(i%16))*2^(32-2*(i%16)):=by
  rw [←eS,show 2*(i%16)+(32-2*(i%16))=32 by omega]
 rw [o,Nat.mod_mul_right_div_self]
 have E:(2:Nat)^(32-2*(i%16))=4*2^(30-2*(i%16)):=by
  rw [show (4:Nat)=2^2 from rfl,←eS];congr 1;omega
 rw [E,Nat.mod_mul_right_mod]
theorem UK {p:Nat}(hp:p=X/4^i%4):X/4^i=4*(X/4^(i+1))+p:=by
 rw [dS,←Nat.div_div_eq_div_mul,hp];omega
theorem UF {s p:Nat}(h:IsRoot P 2 s)(hR:R+s*s=P)(hlt:R*4+p<4*s+1):IsRoot (4*P+p) 2 (2*s)∧R*4+p+2*s*(2*s)=4*P+p:=by
 have e:2*s*(2*s)=4*(s*s):=by grind
 refine⟨⟨by rw [Nat.pow_two];omega,?_⟩,by omega⟩;have f:(2*s+1)^2=4*(s*s)+4*s+1:=by grind
 rw [f];omega
theorem UJ {s p:Nat}(h:IsRoot P 2 s)(hp:p<4)(hR:R+s*s=P)(hlt:¬R*4+p<4*s+1):IsRoot (4*P+p) 2 (2*s+1)∧(R*4+p-(4*s+1))+(2*s+1)*(2*s+1)=4*P+p:=by
 have e:(2*s+1)*(2*s+1)=4*(s*s)+4*s+1:=by grind
 refine⟨⟨by rw [Nat.pow_two];omega,?_⟩,by omega⟩;have h2:=h.2;have f:(2*s+1+1)^2=4*(s+1)^2:=by grind
 rw [f];omega
theorem UH {s:Nat}(h:IsRoot P 2 s)(hR:R+s*s=P):R≤2*s:=by
 have h2:=h.2;have f:(s+1)^2=s*s+2*s+1:=by grind
 rw [f] at h2;omega
theorem PG {x d' q:Nat}(h:nb b (l'.take i)+b^i*c=nb b (l.take i)*2+q)(hi:i<l'.length)(hi2:i<l.length)(hx:l.getD i 0=x)(hd:d+b*d'=2*x+c):nb b ((l'.set i d).take (i+1))+b^(i+1)*d'=nb b (l.take (i+1))*2+q:=by
 rw [pQ b hi,jE b l i hi2,hx,dS,cU,k8,←dE,hd,dE,eE];have e:b^i*(2*x)=b^i*x*2:=by grind
 omega
theorem PH {q:Nat}(hl:l.length=N)(hl':l'.length=N)(h:nb 4294967296 (l'.take N)+4294967296^N*c=nb 4294967296 (l.take N)*2+q)(hb:nb 4294967296 l*2+q<4294967296^N):nb 4294967296 l'=nb 4294967296 l*2+q:=by
 rw [List.take_of_length_le i9,List.take_of_length_le i9] at h
 have hc:c=0:=by
  refine Nat.eq_zero_of_not_pos fun f=>?_
  have o:4294967296^N*1≤4294967296^N*c:=gT _ f
  omega
 rw [hc,iV,fN] at h;exact h
theorem KK {Y:Nat}{b:Bool}(hx:Rd w A n cap (db 4294967296 X))(hln:n≤274877906944)(hy:Rd w D m cd (db 4294967296 Y))(hlm:m≤274877906944)(hb:decide (X<Y)=b):aQ aM 137 #[up A n cap,up D m cd] w (Gv w (Is (.bool b))):=hb▸WU hx hln hy hlm
theorem WV (hx:Rd w A n cap xs)(hln:n≤137438953472):aQ aM 106 #[up A n cap] w (fun e w'=>∃r,IsRoot (nv xs) 2 r∧Gv w (T2 (WR w.heap.size r) (WR w.heap.size (nv xs-r*r))) e w'):=by
 refine bU Tryz.func106 90 J (sr (aE 2 J (aV 1 J (bI [up A n cap] bN (v8 hx) J ?_))));rintro _ _ ⟨A4,f,c4,rfl,bu⟩ e2 M;refine aE 1 J (aD ?_);have jg:=bu.len;have jx:=bu.hl hx (aU _);have fp:nv xs<4294967296^f:=by have h:=qN (lQ hZ (nv xs));rwa [iS hZ,jg] at h
 refine aK 1 J (aA (no f) J (bD J (nD f 2 J) (bD J (cK (f/2) 2 J) (aE 1 J (aV 1 J (mT J (k:=(f/2)+2) J J J cH j9 J fun g5 _ fc dr e9=>?_))))));rw [kG] at dr;have ct:w.heap.size≤g5:=by rw [←fc];exact M.size
 have jm:0<cap→∀a,A=some a→a.block≠g5:=fun hc a ha=>by have:=((hx.ext e2)).rv.blk a ha hc;omega
 have au:0<c4→∀a,A4=some a→a.block≠g5:=fun hc a ha=>by have:=(bu).rv.blk a ha hc;omega
 clear fc;have L:=M.trans e9;refine aE 1 J (aV 1 J (mT J (k:=(f/2)+2) J J J cH j9 J fun E iz bg cj dx=>?_));rw [kG] at cj;have cp:w.heap.size≤E:=by rw [←bg];exact L.size
 have jw:g5<E:=by rw [←bg];exact dr.lt
 have jp:0<cap→∀a,A=some a→a.block≠E:=fun hc a ha=>by have:=((hx.ext (e2.t e9))).rv.blk a ha hc;omega
 have cm:0<c4→∀a,A4=some a→a.block≠E:=fun hc a ha=>by have:=((bu.ext e9)).rv.blk a ha hc;omega
 clear bg;have bo:=L.trans dx;refine aE 1 J (aD (aV 1 J (aA (no f) J (bD J (qP 16 f J) (eC J J J (((16*f:Nat):Int)-1) (fS J) (aE 1 J (bO ?_)))))));have fd:nv xs/4^(16*f)=0:=jL (by rw [show (4:Nat)=2^2 from rfl,←Nat.pow_mul,show 2*(16*f)=32*f by omega,Nat.pow_mul];exact fp);have fa:nb 4294967296 (dF ((f/2)+2) 0)=0:=xP _ _;refine dC (T:=a6×Nat×Int×List Nat×List Nat) (fun⟨wr,k,ii,lr,ls⟩=> [(4,up A4 f c4),(5,no ((f/2)+2:Nat)),(6,up (some ⟨g5,0,none⟩) ((f/2)+2) ((f/2)+2)),(7,up (some ⟨E,0,none⟩) ((f/2)+2) ((f/2)+2)),(8,no ii)]) (fun⟨wr,k,ii,lr,ls⟩=>wr) (fun⟨wr,k,ii,lr,ls⟩=>(Ext w wr)∧(k≤16*f)∧(ii=(k:Int)-1)∧(Bk wr g5 43 (lr.map bF))∧(lr.length=((f/2)+2))∧(Wfb 4294967296 lr)∧(Bk wr E 43 (ls.map bF))∧(ls.length=((f/2)+2))∧(Wfb 4294967296 ls)∧(IsRoot (nv xs/4^k) 2 (nb 4294967296 ls))∧(nb 4294967296 lr+nb 4294967296 ls*nb 4294967296 ls=nv xs/4^k)∧(Rd wr A4 f c4 (db 4294967296 (nv xs)))) (fun⟨wr,k,ii,lr,ls⟩=>k) (⟨iz,16*f,_,_,_⟩:a6×Nat×Int×List Nat×List Nat) ⟨bo,aU _,i9,(dr.ext dx),(List.length_replicate (n:=(f/2)+2) (a:=0)),(qW _),cj,(List.length_replicate (n:=(f/2)+2) (a:=0)),(qW _),(by rw [fd,fa];exact IsRoot.zero yd),(by rw [fd,fa]),(bu.ext (e9.t dx))⟩ J (aP J) ?_;rintro⟨wr,k,ii,lr,ls⟩ ⟨M,_,_,ge,ia,dt,bm,ai,az,hI,hR,ab⟩;refine fW [(4,up A4 f c4),(5,no ((f/2)+2:Nat)),(6,up (some ⟨g5,0,none⟩) ((f/2)+2) ((f/2)+2)),(7,up (some ⟨E,0,none⟩) ((f/2)+2) ((f/2)+2)),(8,no ii)] wr J (aP J) (aD (aD ?_));by_cases ju:0<k
 ·obtain⟨j,rfl⟩:∃j,k=j+1:=⟨k-1,by omega⟩;obtain rfl:ii=(j:Int):=by omega
  refine aK 1 J (aH J (i8 j 0 J) (aG (bC J (bB (aL (aD (bO (aD ?_))))))));have iw:nb 4294967296 ls*nb 4294967296 ls≤nv xs:=a8 (a8 (Nat.le_add_left _ _) (Nat.le_of_eq hR)) (gN _ _);have jl:=UG fp J iw;have jq:=UH hI hR;have jy:=jK (b:=4294967296) (lQ hZ (nv xs)) (j/16);have fe:=UI (X:=nv xs) (i:=j);have br:=UK fe;have fx:(db 4294967296 (nv xs)).getD (j/16) 0/2^(2*(j%16))%4<4:=g7 _ yd;have jz:(db 4294967296 (nv xs)).getD (j/16) 0/2^(2*(j%16))≤4294967295:=a8 (gN _ _) i9;refine aK 2 J (bD J (nD j 16 J) ?_);obtain⟨iu,fq,fh,_⟩:=(ab).at (i:=j/16) i9;refine cA cH bZ (j/16) iu fq J (bG (d5 dK fh) J (mv 1 J (bD J (kT j 16 J) (bD J (qP 2 (j%16) J) (eQ J J (v:= t9 (IntKind.u64.wrap ((2*(j%16):Nat):Int))) (v':= t9 (2*(j%16):Nat)) (G2 (by first | omega | exact i9)) (pL J J J (r:= t9 ((((db 4294967296 (nv xs)).getD (j/16) 0)/2^(2*(j%16)):Nat):Int)) J (fun w=>qG (x:=(db 4294967296 (nv xs)).getD (j/16) 0) (s:=2*(j%16)) i9 _ _ w) (bD J (kT (((db 4294967296 (nv xs)).getD (j/16) 0)/2^(2*(j%16))) 4 J) (aE 1 J (aD ?_)))))))));obtain⟨p,bp⟩:∃p,(((db 4294967296 (nv xs)).getD (j/16) 0)/2^(2*(j%16)))%4=p:=⟨_,rfl⟩;rw [bp] at fe br fx;have jk:(((((db 4294967296 (nv xs)).getD (j/16) 0)/2^(2*(j%16)))%4:Nat):Int)=(p:Int):=by rw [bp]
  refine aK 2 J (dP [up (some ⟨g5,0,none⟩) ((f/2)+2) ((f/2)+2),t9 (((((db 4294967296 (nv xs)).getD (j/16) 0)/2^(2*(j%16)))%4:Nat):Int)] (KI (q:=(((db 4294967296 (nv xs)).getD (j/16) 0)/2^(2*(j%16)))%4) ge ia i9 dt (by rw [bp];omega) (by rw [bp];omega)) J ?_);rintro _ _ ⟨rfl,ak,ej,Y,ae,G,ci⟩;refine dO ?_;have L:=ak.ext M ct;refine aG (aV 1 J (mT J (k:=(f/2)+2) J J J cH j9 J fun H _ av cv I=>?_));rw [kG] at cv;have cz:w.heap.size≤H:=by rw [←av];exact L.size
  have jt:g5<H:=by rw [←av];exact Y.lt
  have jv:E<H:=by rw [←av];exact (bm.vN ak).lt
  have ar:0<c4→∀a,A4=some a→a.block≠H:=fun hc a ha=>by have:=((Rd.updL ab ak au)).rv.blk a ha hc;omega
  clear av;have bo:=L.trans I;refine aE 1 J (aV 2 J (SG J J Tryz.underlying22 (by kernel_rfl) cv (((bm.vN ak).ext I).rd0 az.wf ai i9).rv (fun _=>rfl) (by rw [List.length_map,(List.length_replicate (n:=(f/2)+2) (a:=0))];omega) YQ yd fun _ da U=>?_));rw [a2N (List.length_replicate (n:=(f/2)+2) (a:=0)) ai] at da;refine aG (aD ?_);rw [bp] at ci;refine aK 1 J (dP [up (some ⟨H,0,none⟩) ((f/2)+2) ((f/2)+2),t9 1] (KI (q:=1) da ai i9 az yd i9) J ?_);rintro _ _ ⟨rfl,W,iy,ag,ah,F,_⟩;refine dO ?_;have gi:=W.ext (U.ext bo cz) cz;refine aG (sr (aE 1 J (aD ?_)));by_cases ei:nb 4294967296 ej<nb 4294967296 iy
  ·have bf:nb 4294967296 lr*4+p<4*nb 4294967296 ls+1:=by omega
   have hS:=UF hI hR bf;refine aK 1 J (bI [up (some ⟨g5,0,none⟩) ((f/2)+2) ((f/2)+2)] gi (oP ((((Y.ext I).vN U).vN W).rd0 G.wf ae i9)) J ?_);rintro _ _ ⟨iq,rfl,ga,dz,el⟩ aw du;refine mv 1 J (bI [up (some ⟨H,0,none⟩) ((f/2)+2) ((f/2)+2)] du (oP ((ag.ext aw).rd0 F.wf ah i9)) J ?_);rintro _ _ ⟨jd,rfl,ew,ee,gb⟩ bh dg;refine bI [up (some ⟨g5,0,none⟩) iq ((f/2)+2),up (some ⟨H,0,none⟩) jd ((f/2)+2)] dg (KK (b:=true) ((((((Y.ext I).vN U).vN W).ext (aw.t bh)).rd0 G.wf ae i9).trim G ga dz el) i9 (((ag.ext (aw.t bh)).rd0 F.wf ah i9).trim F ew ee gb) i9 (by rw [decide_eq_true ei])) J ?_;rintro _ ig rfl df dh;refine aE 1 J (aD (aV 1 J (aA (wk) J (aG (aT J (bB (aL (sr (aE 2 J (aD ?_))))))))));refine bH (aE 1 J (bO ?_));refine dC (T:=a6×Nat×Nat×List Nat) (fun⟨o,j2,c,l2⟩=> [(4,up A4 f c4),(5,no ((f/2)+2:Nat)),(6,up (some ⟨g5,0,none⟩) ((f/2)+2) ((f/2)+2)),(7,up (some ⟨E,0,none⟩) ((f/2)+2) ((f/2)+2)),(8,no j),(13,t9 c),(14,no j2)]) (fun⟨o,j2,c,l2⟩=>o) (fun⟨o,j2,c,l2⟩=>(Ext w o)∧(j2≤((f/2)+2))∧(c≤1)∧(Bk o g5 43 (ej.map bF))∧(Bk o E 43 (l2.map bF))∧(l2.length=((f/2)+2))∧(Wfb 4294967296 l2)∧(∀q,j2≤q→l2.getD q 0=ls.getD q 0)∧(nb 4294967296 (l2.take j2)+4294967296^j2*c=nb 4294967296 (ls.take j2)*2+0)∧(Rd o A4 f c4 (db 4294967296 (nv xs)))) (fun⟨o,j2,c,l2⟩=>((f/2)+2)-j2) (⟨ig,0,0,ls⟩:a6×Nat×Nat×List Nat) ⟨dh,(bX _),yd,((((Y.ext I).vN U).vN W).ext (aw.t (bh.t df))),(((((bm.vN ak).ext I).vN U).vN W).ext (aw.t (bh.t df))),ai,az,(fun _ _=>rfl),(by simp [nb]),((Rd.updL (Rd.updL ((Rd.updL ab ak au).ext I) U ar) W ar).ext (aw.t (bh.t df)))⟩ J (aP J) ?_;rintro⟨o,j2,c,l2⟩ ⟨M,je,hc,am,Z,V,ao,bj,aq,ab⟩;refine fW [(4,up A4 f c4),(5,no ((f/2)+2:Nat)),(6,up (some ⟨g5,0,none⟩) ((f/2)+2) ((f/2)+2)),(7,up (some ⟨E,0,none⟩) ((f/2)+2) ((f/2)+2)),(8,no j),(13,t9 c),(14,no j2)] o J (aP J) (aD (aD ?_));by_cases ij:j2<(f/2)+2
   ·refine aK 2 J (aH J (dV j2 ((f/2)+2) J) (aG (bC J (bB (aL (aD (bO (aD ?_))))))));have hd:=jK (b:=4294967296) ao j2;refine aK 2 J (cA cH bZ j2 ⟨E,j2,none⟩ (eG _ _) J (bG (jF dK Z (by rw [V];omega)) J (bD J (lV 2 (l2.getD j2 0) J) (mv 1 J (bD J (jC (2*(l2.getD j2 0)) c J) (aE 1 J (aV 3 J (bD J (kT ((2*(l2.getD j2 0))+c) 4294967296 J) (cA cH bZ j2 ⟨E,j2,none⟩ (eG _ _) J ?_)))))))));have em:=Z;refine i0 J J J bZ J em (iQ (by rw [V];omega)) J ((l2.set j2 (((2*(l2.getD j2 0))+c)%4294967296)).map bF) (eM _ _ _) fun jh eg dw _=>?_;have L:=dw.ext M cp;refine aG (aK 1 J (bD J (kU ((2*(l2.getD j2 0))+c) 4294967296 J) (bS 1 J (bT (aL (aK 1 J (bD J (cK j2 1 J) (bS 1 J (cP (⟨jh,j2+1,_,_⟩:a6×Nat×Nat×List Nat) ⟨L,i9,i9,(am.vN dw),eg,(jQ (l:=l2) (V)),jJ ao _ (hx:=(g7 _ yd)),(ED bj),(PG aq i9 i9 (bj j2 (aU _)).symm (kF _ _)),(Rd.updL ab dw cm)⟩ (show ((f/2)+2)-(j2+1)<((f/2)+2)-j2 by omega) J (aP J))))))))))
   have dl:j2=((f/2)+2):=by omega
   rw [dl] at aq;have aj:nb 4294967296 l2=2*nb 4294967296 ls:=by have h:=PH ai V aq i9;omega
   refine aK 2 J (aH J (dQ j2 ((f/2)+2) J) (aG (aT J (d9 (cY (d7 (d8 (bT (aL (aK 1 J (eC J J J (((j:Nat):Int)-1) (fS J) ?_)))))))))));refine bS 1 J (cP (⟨o,j,_,_,_⟩:a6×Nat×Int×List Nat×List Nat) ⟨M,i9,rfl,am,ae,G,Z,V,ao,(by rw [aj,br];exact hS.1),(by rw [aj,br,ci];exact hS.2),ab⟩ (show j<j+1 by omega) J (aP J))
  have bf:¬nb 4294967296 lr*4+p<4*nb 4294967296 ls+1:=by omega
  have hS:=UJ hI fx hR bf;refine aK 1 J (bI [up (some ⟨g5,0,none⟩) ((f/2)+2) ((f/2)+2)] gi (oP ((((Y.ext I).vN U).vN W).rd0 G.wf ae i9)) J ?_);rintro _ _ ⟨jc,rfl,fw,eh,en⟩ kD du;refine mv 1 J (bI [up (some ⟨H,0,none⟩) ((f/2)+2) ((f/2)+2)] du (oP ((ag.ext kD).rd0 F.wf ah i9)) J ?_);rintro _ _ ⟨jb,rfl,gj,fm,fb⟩ iA dg;refine bI [up (some ⟨g5,0,none⟩) jc ((f/2)+2),up (some ⟨H,0,none⟩) jb ((f/2)+2)] dg (KK (b:=false) ((((((Y.ext I).vN U).vN W).ext (kD.t iA)).rd0 G.wf ae i9).trim G fw eh en) i9 (((ag.ext (kD.t iA)).rd0 F.wf ah i9).trim F gj fm fb) i9 (by rw [decide_eq_false ei])) J ?_;rintro _ _ rfl bw dh;refine aE 1 J (aD (aV 1 J (aA (we) J (aG (bC J (aV 2 J (bI [up (some ⟨H,0,none⟩) ((f/2)+2) ((f/2)+2)] dh (oP ((ag.ext (kD.t (iA.t bw))).rd0 F.wf ah i9)) J ?_)))))));rintro _ _ ⟨gf,rfl,_,_,dy⟩ ch jj;have gy:=dy 4294967296;refine dP [up (some ⟨g5,0,none⟩) ((f/2)+2) ((f/2)+2),up (some ⟨H,0,none⟩) gf ((f/2)+2),t9 1,I0] (xG (q:=1) (s:=0) ((((Y.ext I).vN U).vN W).ext (kD.t (iA.t (bw.t ch)))) ae G (((ag.ext (kD.t (iA.t (bw.t ch)))).rd0 F.wf ah i9).take (k:=gf) i9 i9 (aU _)) (lH F _) (fun _ a ha=>by cases ha;show H≠g5;omega) yd (by rw [gy,Nat.pow_zero];omega)) J ?_;rintro _ il ⟨rfl,dm,fv,fy,gk,ef,fz⟩;refine dO ?_;rw [gy,Nat.pow_zero,eH,Nat.one_mul] at fz;have jf:nb 4294967296 fv=nb 4294967296 lr*4+p-(4*nb 4294967296 ls+1):=by omega
  refine aG (bH (aE 1 J (sr (aE 2 J (sr (aE 1 J (bO ?_)))))));refine dC (T:=a6×Nat×Nat×List Nat) (fun⟨o,j2,c,l2⟩=> [(4,up A4 f c4),(5,no ((f/2)+2:Nat)),(6,up (some ⟨g5,0,none⟩) ((f/2)+2) ((f/2)+2)),(7,up (some ⟨E,0,none⟩) ((f/2)+2) ((f/2)+2)),(8,no j),(13,t9 c),(14,no j2)]) (fun⟨o,j2,c,l2⟩=>o) (fun⟨o,j2,c,l2⟩=>(Ext w o)∧(j2≤((f/2)+2))∧(c≤1)∧(Bk o g5 43 (fv.map bF))∧(Bk o E 43 (l2.map bF))∧(l2.length=((f/2)+2))∧(Wfb 4294967296 l2)∧(∀q,j2≤q→l2.getD q 0=ls.getD q 0)∧(nb 4294967296 (l2.take j2)+4294967296^j2*c=nb 4294967296 (ls.take j2)*2+1)∧(Rd o A4 f c4 (db 4294967296 (nv xs)))) (fun⟨o,j2,c,l2⟩=>((f/2)+2)-j2) (⟨il,0,1,ls⟩:a6×Nat×Nat×List Nat) ⟨(dm.ext jj ct),(bX _),yd,fy,((((((bm.vN ak).ext I).vN U).vN W).ext (kD.t (iA.t (bw.t ch)))).vN dm),ai,az,(fun _ _=>rfl),(by simp [nb]),(Rd.updL ((Rd.updL (Rd.updL ((Rd.updL ab ak au).ext I) U ar) W ar).ext (kD.t (iA.t (bw.t ch)))) dm au)⟩ J (aP J) ?_;rintro⟨o,j2,c,l2⟩ ⟨M,je,hc,am,Z,V,ao,bj,aq,ab⟩;refine fW [(4,up A4 f c4),(5,no ((f/2)+2:Nat)),(6,up (some ⟨g5,0,none⟩) ((f/2)+2) ((f/2)+2)),(7,up (some ⟨E,0,none⟩) ((f/2)+2) ((f/2)+2)),(8,no j),(13,t9 c),(14,no j2)] o J (aP J) (aD (aD ?_));by_cases ij:j2<(f/2)+2
  ·refine aK 2 J (aH J (dV j2 ((f/2)+2) J) (aG (bC J (bB (aL (aD (bO (aD ?_))))))));have hd:=jK (b:=4294967296) ao j2;refine aK 2 J (cA cH bZ j2 ⟨E,j2,none⟩ (eG _ _) J (bG (jF dK Z (by rw [V];omega)) J (bD J (lV 2 (l2.getD j2 0) J) (mv 1 J (bD J (jC (2*(l2.getD j2 0)) c J) (aE 1 J (aV 3 J (bD J (kT ((2*(l2.getD j2 0))+c) 4294967296 J) (cA cH bZ j2 ⟨E,j2,none⟩ (eG _ _) J ?_)))))))));have fg:=Z;refine i0 J J J bZ J fg (iQ (by rw [V];omega)) J ((l2.set j2 (((2*(l2.getD j2 0))+c)%4294967296)).map bF) (eM _ _ _) fun ir fk de _=>?_;have L:=de.ext M cp;refine aG (aK 1 J (bD J (kU ((2*(l2.getD j2 0))+c) 4294967296 J) (bS 1 J (bT (aL (aK 1 J (bD J (cK j2 1 J) (bS 1 J (cP (⟨ir,j2+1,_,_⟩:a6×Nat×Nat×List Nat) ⟨L,i9,i9,(am.vN de),fk,(jQ (l:=l2) (V)),jJ ao _ (hx:=(g7 _ yd)),(ED bj),(PG aq i9 i9 (bj j2 (aU _)).symm (kF _ _)),(Rd.updL ab de cm)⟩ (show ((f/2)+2)-(j2+1)<((f/2)+2)-j2 by omega) J (aP J))))))))))
  have dl:j2=((f/2)+2):=by omega
  rw [dl] at aq;have aj:nb 4294967296 l2=2*nb 4294967296 ls+1:=by have h:=PH ai V aq i9;omega
  refine aK 2 J (aH J (dQ j2 ((f/2)+2) J) (aG (aT J (d9 (cY (d7 (d8 (bT (aL (aK 1 J (eC J J J (((j:Nat):Int)-1) (fS J) ?_)))))))))));refine bS 1 J (cP (⟨o,j,_,_,_⟩:a6×Nat×Int×List Nat×List Nat) ⟨M,i9,rfl,am,gk,ef,Z,V,ao,(by rw [aj,br];exact hS.1),(by rw [aj,br,jf];exact hS.2),ab⟩ (show j<j+1 by omega) J (aP J))
 obtain rfl:k=0:=by omega
 refine aK 1 J (aH J (mJ) (aG (aT J (d9 (cY (d7 (d8 (aL (aV 1 J (bI [up (some ⟨E,0,none⟩) ((f/2)+2) ((f/2)+2)] M (E8 (bm.rd0 az.wf ai i9) i9 az) J ?_))))))))));rintro _ _ ⟨ji,ja,ie,rfl,ik,io⟩ ix L;refine mv 1 J (bI [up (some ⟨g5,0,none⟩) ((f/2)+2) ((f/2)+2)] L (E8 ((ge.ext ix).rd0 dt.wf ia i9) i9 dt) J ?_);rintro _ _ ⟨gg,go,fi,rfl,gx,fj⟩ fo bo;refine aE 2 J (bA (aZ [up ji ja ie,up gg go fi] J ⟨rfl,rfl,xl⟩ ?_));rw [Nat.pow_zero,Nat.div_one] at hI hR;exact⟨_,hI,_,rfl,⟨_,_,rfl,⟨_,_,_,rfl,ik,((io.ext fo)).mono M.size⟩,(by rw [show nv xs-nb 4294967296 ls*nb 4294967296 ls=nb 4294967296 lr by omega];exact⟨_,_,_,rfl,gx,(fj).mono L.size⟩)⟩,bo⟩
end
end Go.Proofs.YtkkabncicmhjfaaGreatDoor
