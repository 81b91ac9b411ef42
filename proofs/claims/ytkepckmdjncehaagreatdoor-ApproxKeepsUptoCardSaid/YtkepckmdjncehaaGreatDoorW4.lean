/- Parts Ref4t, Near, Flt, Shl, Apx, R7m, R7s, Fl, Apb, Fl2, Apc, Sxt, R7n, R7r, joined. -/
import Derived.Test.YtkepckmdjncehaaGreatDoorW3
import Derived.Laws.FloatArith

open Go renaming Addr → aC, Calls → aO, Oper → aX, Operand → cS, Program → cD, TypeId → aT, Value → aH, World → a6
open BitVec renaming ofInt → nL
open Go.Instr renaming alloc → AZ, makeSlice → rB
open Int renaming natCast_mul → kN, toNat_natCast → gV
open List renaming all_eq_true → fU, append_nil → mJ, drop_eq_getElem_cons → m4, drop_zero → gU, getD_eq_getElem?_getD → bC, getElem?_eq_getElem → cJ, getElem?_eq_none → kM, getElem?_map → kK, getElem_mem → mI, length_append → cL, length_drop → cV, length_eq_zero_iff → pU, length_take → bJ, map_cons → iN, map_nil → j7, map_replicate → sM, map_toArray → pT, mem_singleton → jI, replicate → bP
open Nat renaming add_assoc → j0, add_mul → dX, add_mul_div_left → uD, div_add_mod → iA, div_eq_of_lt → gT, div_le_self → fI, div_lt_iff_lt_mul → k0, div_lt_self → jZ, le_of_not_lt → pQ, le_refl → b8, le_trans → aG, lt_of_le_of_lt → iH, lt_of_lt_of_le → dF, min_eq_left → fT, mod_eq_of_lt → fG, mod_lt → eO, mul_add → cT, mul_assoc → bH, mul_comm → bY, mul_div_cancel → nG, mul_div_mul_right → rA, mul_le_mul → jQ, mul_le_mul_left → eF, mul_le_mul_right → eA, mul_mod_mul_right → sK, mul_one → cI, mul_pos → fS, mul_right_comm → kH, pow_add → bX, pow_le_pow_right → dU, pow_lt_pow_iff_right → sI, pow_pos → eP, pow_succ → cB, two_pow_pos → dW, zero_add → f9, zero_le → bW, zero_mul → iZ
open Go.Next renaming value → fZ
open Option renaming getD_some → nE
open Option.some renaming inj → l4
open Or renaming inl → cE, inr → bR
open Go.Result renaming andThen_ok → f8
open Go.Sem renaming run_bind → cK, run_pure → gN
open Go.Proofs.Tryz renaming prog → aF
open Go.Value renaming int → bV, pointer → wL
namespace Go.Proofs.YtkepckmdjncehaaGreatDoor
variable {A B:Option aC}{C a e y z:Int}{D E G M N Q X Y ac an b base c c' cap cap' cy d f g i j k m n n' p q r x:Nat}{L ds es fs hi l xs:List Nat}{P:cD}{af:Array Edge}{dst:Option Tmp}{gd:Option (Nat×Bool)}{ng s t:Bool}{o:BinOp}{ops:Array aX}{pos:String}{rest:List aX}{ts:Array aT}{ty:aT}
section
open Go.RowKit
theorem XP (h:(wd m).length≤N):(db 65536 m).length≤4*N:=by
 refine kT fP ?_
 have h1:=kS m
 refine dF h1 ?_
 rw [sC,←Nat.pow_mul]
 exact dU (by decide) (by omega)
theorem XO (h:(wd m).length≤1048576):(db 65536 m).length≤4194304:=XP h
theorem WK (hn:0<n)(h:l.getD (n-1) 0≠0):nb 65536 l≠0:=by
 have hl:n-1<l.length:=by
  refine Nat.lt_of_not_le fun hle=>h ?_
  rw [bC,kM hle];rfl
 rw [mV 65536 l (n-1),m4 hl,lD]
 rw [bC,cJ hl,nE] at h
 have h3:65536^(n-1)*1≤65536^(n-1)*(l[n-1]+65536*nb 65536 (l.drop (n-1+1))):=eF _ (by omega)
 have h4:0<65536^(n-1):=eP (by decide)
 omega
theorem T1 (hl:hi.length=n)(hin:i<n)(h:∀j,j<i→hi.getD (n-1-j) 0=L.getD j 0):∀j,j<i+1→(hi.set (n-1-i) (L.getD i 0)).getD (n-1-j) 0=L.getD j 0:=by
 intro j hj
 by_cases e:j=i
 ·subst e
  simp [bC,show n-1-j<hi.length by omega]
 ·have h1:=h j (by omega)
  rw [bC,List.getElem?_set_ne (by omega),←bC]
  exact h1
theorem T4 (hl:hi.length=n)(hL:L.length=n)(h:∀j,j<n→hi.getD (n-1-j) 0=L.getD j 0):hi=L.reverse:=by
 refine List.ext_getElem (by rw [List.length_reverse];omega) fun k h1 h2=>?_
 have h3:=h (n-1-k) (by omega)
 rw [show n-1-(n-1-k)=k by omega,bC,cJ h1,bC,cJ (by omega)] at h3
 rw [List.getElem_reverse]
 simp only [nE] at h3
 rw [h3]
 congr 1
 omega
theorem RI (h:∀d,d∈l→d<36):(l.map sgn).getD i 0≤255:=by
 by_cases hi:i<l.length
 ·rw [bC,kK,cJ hi]
  have:=RJ (h _ (mI hi))
  simp only [Option.map_some,nE];omega
 ·rw [bC,kM (by rw [List.length_map];omega)];exact bW _
set_option maxHeartbeats 4000000 in
theorem TH {w:a6}(hx:Wi w A an ac m)(hal:an≤1048576)(hbl:2≤base)(hbu:base≤36):
    aO aF 232 #[.slice A an ac,.int .i64 base] w (Gv w (T2 (Is (.string (a8 (bB base m)))) (Is (.int .i64 0)))):=by
 have hml2:(wd m).length≤1048576:=aG hx.len hal
 have hdl:=tJ hbl hml2
 refine bK Tryz.func232 rfl (n:=72) rfl (bq rfl) (args:= [.slice A an ac,.int .i64 base]) (bE [(0,.slice A an ac),(1,.int .i64 base)] ⟨rfl,rfl,trivial⟩ (sr (mv 2 rfl (a0 (aA (sr (mv 1 rfl (aB rfl rfl rfl false (cX (a:=base) (b:=2) rfl rfl) (mv 2 rfl (aB rfl rfl rfl false (d6 (a:=base) (b:=36) rfl rfl) (pu (v:= .bool false) rfl (a0 (aI rfl ?_)))))))))))))
 refine aN (aD (sr (mv 1 rfl (cl (vs:= [.slice A an ac]) (Ext.refl w) (YK hx (by omega)) rfl (by kernel_rfl) fun xr3 v1 r3 e2 hw1=>?_))))
 obtain⟨A4,n4,c4,rfl,hl4,ho4⟩:=r3
 refine mv 1 rfl (a0 (sr (mv 1 rfl (a0 (aA (bG ?_))))))
 refine d4 (T:=a6×List Nat×List Nat×Option aC×Nat×Nat×Option aC×Nat×Nat)
  (fun⟨wr,lds,l,DA,dn,dc,OA,on,oc⟩=> [(1,.int .i64 base),(6,.slice DA dn dc),(7,.slice OA on oc)])
  (fun⟨wr,lds,l,DA,dn,dc,OA,on,oc⟩=>wr)
  (fun⟨wr,lds,l,DA,dn,dc,OA,on,oc⟩=>(Ext w wr)∧(Own wr w.heap.size 5 1 OA on oc ((lds.map sgn).map B8))∧(Own wr w.heap.size 3 1 DA dn dc (l.map I6))∧(Wfb 65536 l)∧(dn=0∨l.getD (dn-1) 0≠0)∧(db base m=lds++db base (nb 65536 l))∧(dn≤1099511627776))
  (fun⟨wr,lds,l,DA,dn,dc,OA,on,oc⟩=>nb 65536 l)
  (⟨v1,[],db 65536 m,A4,n4,c4,none,0,0⟩:a6×List Nat×List Nat×Option aC×Nat×Nat×Option aC×Nat×Nat) ⟨hw1,(Own.nil _ _ _ _),ho4,(kY fP m),(by rw [←hl4];exact wA fP m),(by rw [iB fP];rfl),(by have:=XO hml2;omega)⟩ rfl ⟨rfl,rfl,rfl,trivial⟩ ?_
 rintro⟨wr,lds,l,DA,dn,dc,OA,on,oc⟩ ⟨hw1,hO,hD,hwl,htop,hdb,hdn⟩
 refine cC [(1,.int .i64 base),(6,.slice DA dn dc),(7,.slice OA on oc)] wr rfl ⟨rfl,rfl,rfl,trivial⟩ ?_
 have hll:=qJ hD
 have hon:=qJ hO
 rw [List.length_map] at hon
 have hll2:lds.length≤(db base m).length:=by rw [hdb,cL];omega
 refine aA (aA ?_)
 by_cases hdn0:dn>0
 · 
  have hpos:nb 65536 l≠0:=WK (by omega) (htop.resolve_left (by omega))
  have hr36:nb 65536 l%base<36:=dF (eO _ (by omega)) hbu
  refine a7 (mv 1 rfl (pu (v:= .int .i64 dn) rfl (aB rfl rfl rfl true (dJ (a:=dn) (b:=0) rfl rfl) (a0 (aP rfl (aN (aD (bG (sr (mv 2 rfl ?_))))))))))
  have ow5:=hD
  refine dD rfl rfl (vs:= [.slice DA dn dc,.int .i64 base]) (by kernel_rfl) (by decide) (TF ow5 hwl hbl hbu (by omega)) ?_
  rintro _ v6 ⟨es7,rfl,ho8,hl9,hwf10,hv11,uo12⟩
  refine dE ?_
  have hw2:=uo12.ext hw1 (fun p hp=>(ow5.block p hp).1)
  refine mv 1 rfl (a0 (sr (mv 2 rfl (dK (bs:= [48,49,50,51,52,53,54,55,56,57,97,98,99,100,101,102,103,104,105,106,107,108,109,110,111,112,113,114,115,116,117,118,119,120,121,122]) (i:=nb 65536 l%base) rfl rfl rfl Tryz.underlying9 (by decide) (dQ rfl rfl (k:=1) (e:=5) [.int .u8 ((([48,49,50,51,52,53,54,55,56,57,97,98,99,100,101,102,103,104,105,106,107,108,109,110,111,112,113,114,115,116,117,118,119,120,121,122]).getD (nb 65536 l%base) 0:Nat):Int)] (fun _=>by kernel_rfl) fun g13 v14 nb=>?_)))))
  have hb15:=nb.bk
  have e16:=nb.ext
  clear nb
  have hw3:=hw2.trans e16
  have ow17:=((hO.updOT ow5 (by decide) uo12).ext e16)
  refine nP rfl rfl rfl fM qR rfl ow17 hw3.size [.int .u8 ((([48,49,50,51,52,53,54,55,56,57,97,98,99,100,101,102,103,104,105,106,107,108,109,110,111,112,113,114,115,116,117,118,119,120,121,122]).getD (nb 65536 l%base) 0:Nat):Int)] rfl (oW _ hb15) rfl fun A18 c19 v20 ho21 uo22 kp23=>?_
  have hw4:=uo22.ext hw3 (fun p hp=>(ow17.block p hp).1)
  have ho24:Own v20 w.heap.size 5 1 A18 (on+1) c19 (((lds.map sgn)++ [([48,49,50,51,52,53,54,55,56,57,97,98,99,100,101,102,103,104,105,106,107,108,109,110,111,112,113,114,115,116,117,118,119,120,121,122]).getD (nb 65536 l%base) 0]).map B8):=by have h:=ho21;simp only [List.map_append,iN,j7] at h⊢;exact h
  refine mv 1 rfl (a0 (bG ?_))
  refine d4 (T:=a6×Nat)
   (fun⟨wr,k⟩=> [(1,.int .i64 base),(6,.slice DA k dc),(7,.slice A18 (on+1) c19)])
   (fun⟨wr,k⟩=>wr)
   (fun⟨wr,k⟩=>(Ext w wr)∧(Own wr w.heap.size 5 1 A18 (on+1) c19 (((lds.map sgn)++ [([48,49,50,51,52,53,54,55,56,57,97,98,99,100,101,102,103,104,105,106,107,108,109,110,111,112,113,114,115,116,117,118,119,120,121,122]).getD (nb 65536 l%base) 0]).map B8))∧(Own wr w.heap.size 3 1 DA k dc ((es7.take k).map I6))∧(k≤dn)∧(nb 65536 (es7.take k)=nb 65536 es7))
   (fun⟨wr,k⟩=>k)
   (⟨v20,dn⟩:a6×Nat) ⟨hw4,ho24,(by rw [List.take_of_length_le (by omega)];exact ((ho8.ext e16).updOT ow17 (by decide) uo22)),(b8 _),(by rw [List.take_of_length_le (by omega)])⟩ rfl ⟨rfl,rfl,rfl,trivial⟩ ?_
  rintro⟨wr,k⟩ ⟨hw1,hO,hD,hk,hvk⟩
  refine cC [(1,.int .i64 base),(6,.slice DA k dc),(7,.slice A18 (on+1) c19)] wr rfl ⟨rfl,rfl,rfl,trivial⟩ (aA (aA ?_))
  by_cases hk0:k>0
  · 
   by_cases hz8:(es7.take k).getD (k-1) 0=0
   · 
    refine a7 (mv 1 rfl (pu (v:= .int .i64 k) rfl (aB rfl rfl rfl true (dJ (a:=k) (b:=0) rfl rfl) (mv 3 rfl (pu (v:= .int .i64 k) rfl (aE rfl rfl rfl ((k-1:Nat):Int) (eR (a:=k) (b:=1) rfl rfl) ?_))))))
    obtain⟨p25,hp25,hc25⟩:=(hD).at1 (i:=k-1) (by omega)
    refine bT rfl rfl rfl mL oR (k-1) rfl p25 hp25 (aS rfl rfl (cZ zX hc25) (aB rfl rfl rfl true (dA (a:=(es7.take k).getD (k-1) 0) (b:=0) rfl rfl) (pu (v:= .bool true) rfl (a0 (aP rfl (aN (aD (bG (a7 (mv 2 rfl (pu (v:= .int .i64 k) rfl (aE rfl rfl rfl ((k-1:Nat):Int) (eR (a:=k) (b:=1) rfl rfl) (jT rfl rfl mL oR (lo:=0) (hi:=k-1) rfl rfl (by omega) (by have:=(hD).rv.le;omega) (v:= .slice DA (k-1) dc) (oT _ _ _) (by decide) ?_)))))))))))))
    refine mv 1 rfl (aU (cA (cH (⟨wr,k-1⟩:a6×Nat) ⟨hw1,hO,(by have h:=(hD.take1 (k:=k-1) (by omega));rwa [List.take_take,fT (by omega)] at h),(by omega),(by have h:=yK 65536 es7 (k-1) (by omega) (by have h:=hz8;rwa [yR (by omega)] at h);rw [Nat.sub_add_cancel hk0] at h;rw [←h];exact hvk)⟩ (show k-1<k by omega) rfl ⟨rfl,rfl,rfl,trivial⟩)))
   · 
    refine a7 (mv 1 rfl (pu (v:= .int .i64 k) rfl (aB rfl rfl rfl true (dJ (a:=k) (b:=0) rfl rfl) (mv 3 rfl (pu (v:= .int .i64 k) rfl (aE rfl rfl rfl ((k-1:Nat):Int) (eR (a:=k) (b:=1) rfl rfl) ?_))))))
    obtain⟨p27,hp27,hc27⟩:=(hD).at1 (i:=k-1) (by omega)
    refine bT rfl rfl rfl mL oR (k-1) rfl p27 hp27 (aS rfl rfl (cZ zX hc27) (aB rfl rfl rfl false (dC (a:=(es7.take k).getD (k-1) 0) (b:=0) rfl rfl) (pu (v:= .bool false) rfl (a0 (aI rfl (cR (cN (cP (cQ (cA (cH (⟨wr,lds++ [nb 65536 l%base],es7.take k,DA,k,dc,A18,on+1,c19⟩:a6×List Nat×List Nat×Option aC×Nat×Nat×Option aC×Nat×Nat) ⟨hw1,(by rw [List.map_append,iN,j7,←sW hr36];exact hO),hD,(kF hwf10 _),(bR hz8),(by rw [hdb,List.append_assoc,hvk,hv11,lR hbl hpos];rfl),(by omega)⟩ (show nb 65536 (es7.take k)<nb 65536 l by rw [hvk,hv11];exact jZ (by omega) (by omega)) rfl ⟨rfl,rfl,rfl,trivial⟩)))))))))))
  · 
   refine a7 (mv 1 rfl (pu (v:= .int .i64 k) rfl (aB rfl rfl rfl false (d6 (a:=k) (b:=0) rfl rfl) (mv 8 rfl (pu (v:= .bool false) rfl (a0 (aI rfl (cR (cN (cP (cQ (cA (cH (⟨wr,lds++ [nb 65536 l%base],es7.take k,DA,k,dc,A18,on+1,c19⟩:a6×List Nat×List Nat×Option aC×Nat×Nat×Option aC×Nat×Nat) ⟨hw1,(by rw [List.map_append,iN,j7,←sW hr36];exact hO),hD,(kF hwf10 _),(cE (by omega)),(by rw [hdb,List.append_assoc,hvk,hv11,lR hbl hpos];rfl),(by omega)⟩ (show nb 65536 (es7.take k)<nb 65536 l by rw [hvk,hv11];exact jZ (by omega) (by omega)) rfl ⟨rfl,rfl,rfl,trivial⟩)))))))))))))
 · 
  have hl0:l= []:=pU.1 (by omega)
  have hldb:db base m=lds:=by rw [hdb,hl0];show lds++db base 0=lds;rw [lG,mJ]
  refine a7 (mv 1 rfl (pu (v:= .int .i64 dn) rfl (aB rfl rfl rfl false (d6 (a:=dn) (b:=0) rfl rfl) (a0 (aI rfl (cR (cN (cP (cQ (aD (aA (aA ?_))))))))))))
  by_cases hon0:on=0
  · 
   refine a7 (mv 1 rfl (pu (v:= .int .i64 on) rfl (aB rfl rfl rfl true (dA (a:=on) (b:=0) rfl rfl) (a0 (aP rfl (sr (mv 2 rfl (a0 (aM (bL (aL [.string (a8 ([48])),I0] rfl ⟨rfl,rfl,trivial⟩ ?_)))))))))))
   have hm0:m=0:=by rw [←zO hbl,hldb];exact pU.1 (by omega)
   have hstr:([48]:List Nat)=bB base m:=by subst hm0;rfl
   exact⟨_,rfl,⟨_,_,rfl,(show Value.string _=Value.string _ from congrArg (fun l=>Value.string (a8 l)) hstr),rfl⟩,hw1⟩
  · 
   refine a7 (mv 1 rfl (pu (v:= .int .i64 on) rfl (aB rfl rfl rfl false (dC (a:=on) (b:=0) rfl rfl) (a0 (aI rfl (aN (aD (sr (mv 1 rfl (pu (v:= .int .i64 on) rfl (l7 rfl (k:=on) rfl rfl rfl fM qR rfl fun g28 v29 hg30 hb31 e32=>?_)))))))))))
   rw [T8] at hb31
   have ge33:w.heap.size≤g28:=by rw [←hg30];exact hw1.size
   have ne34:∀p,OA=some p→p.block≠g28:=fun p hp=>by have:=((hO).block p hp).2;omega
   clear hg30
   have hw2:=hw1.trans e32
   refine mv 1 rfl (a0 (aA (sr (mv 1 rfl (a0 (bG ?_))))))
   refine d4 (T:=a6×Nat×List Nat)
    (fun⟨wr,i,hi⟩=> [(7,.slice OA on oc),(9,.slice (some ⟨g28,0,none⟩) on on),(10,.int .i64 i)])
    (fun⟨wr,i,hi⟩=>wr)
    (fun⟨wr,i,hi⟩=>(Ext w wr)∧(Own wr w.heap.size 5 1 OA on oc ((lds.map sgn).map B8))∧(Bk wr g28 5 (hi.map B8))∧(hi.length=on)∧(i≤on)∧(∀j,j<i→hi.getD (on-1-j) 0=(lds.map sgn).getD j 0))
    (fun⟨wr,i,hi⟩=>on-i)
    (⟨v29,0,_⟩:a6×Nat×List Nat) ⟨hw2,(hO.ext e32),hb31,(List.length_replicate (n:=on) (a:=0)),(bW _),(fun j hj=>absurd hj (Nat.not_lt_zero _))⟩ rfl ⟨rfl,rfl,rfl,trivial⟩ ?_
   rintro⟨wr,i,hi⟩ ⟨hw1,hO,hb,hhl,hii,hrev⟩
   refine cC [(7,.slice OA on oc),(9,.slice (some ⟨g28,0,none⟩) on on),(10,.int .i64 i)] wr rfl ⟨rfl,rfl,rfl,trivial⟩ (aA (aA ?_))
   by_cases hlt:i<on
   · 
    refine a7 (mv 2 rfl (pu (v:= .int .i64 on) rfl (aB rfl rfl rfl true (dB (a:=i) (b:=on) rfl rfl) (a0 (aP rfl (aN (aD (aA (bG ?_)))))))))
    have hb8:(lds.map sgn).getD i 0≤255:=RI (fun d hd=>by have:=kY hbl m d (by rw [hldb];exact hd);omega)
    refine a7 (mv 2 rfl (pu (v:= .int .i64 on) rfl (aE rfl rfl rfl ((on-1:Nat):Int) (eR (a:=on) (b:=1) rfl rfl) (mv 1 rfl (aE rfl rfl rfl (((on-1)-i:Nat):Int) (eR (a:=on-1) (b:=i) rfl rfl) (mv 2 rfl ?_))))))
    obtain⟨p35,hp35,hc35⟩:=(hO).at1 (i:=i) (by omega)
    refine bT rfl rfl rfl fM fF i rfl p35 hp35 (aS rfl rfl (cZ qX hc35) (bT rfl rfl rfl fM fF ((on-1)-i) rfl ⟨g28,(on-1)-i,none⟩ (dP _ _) ?_))
    have hb37:=hb
    refine eB rfl rfl rfl fF rfl hb37 (fK (by rw [hhl];omega)) rfl ((hi.set ((on-1)-i) ((lds.map sgn).getD i 0)).map B8) (pA _ _ _) fun v36 hb38 u39 hs40=>?_
    have hw2:=u39.ext hw1 ge33
    refine aU (cA (aD (a7 (mv 1 rfl (aE rfl rfl rfl ((i+1:Nat):Int) (bF (a:=i) (b:=1) rfl rfl) (mv 1 rfl (aU (cH (⟨v36,i+1,hi.set ((on-1)-i) ((lds.map sgn).getD i 0)⟩:a6×Nat×List Nat) ⟨hw2,(hO.upd u39 ne34),hb38,(hJ (l:=hi) (hhl)),(by omega),(T1 hhl (by omega) hrev)⟩ (show on-(i+1)<on-i by omega) rfl ⟨rfl,rfl,rfl,trivial⟩))))))))
   · 
    refine a7 (mv 2 rfl (pu (v:= .int .i64 on) rfl (aB rfl rfl rfl false (cX (a:=i) (b:=on) rfl rfl) (a0 (aI rfl (cR (cN (cP (cQ (aD (sr (mv 1 rfl (uK (bs:=hi) (lb:=0) rfl rfl (Own.mk_ (bW _) hb (b8 _) (by rw [eY];omega) (by rw [List.length_map,hhl,cI]) (by rw [cI,List.take_of_length_le (by rw [List.length_map,hhl];exact b8 _)])) ?_)))))))))))))
    refine mv 2 rfl (a0 (aM (aL [.string (a8 hi),I0] rfl ⟨rfl,rfl,trivial⟩ ?_)))
    have hm0:m≠0:=fun e=>hon0 (by have h:=hldb;rw [e,lG] at h;rw [←hon,←h];rfl)
    have hstr:hi=bB base m:=by rw [bB,if_neg hm0,eE,hldb,List.map_reverse];exact T4 hhl (by rw [List.length_map];omega) (fun j hj=>hrev j (by omega))
    exact⟨_,rfl,⟨_,_,rfl,(show Value.string _=Value.string _ from congrArg (fun l=>Value.string (a8 l)) hstr),rfl⟩,hw1⟩
set_option maxHeartbeats 4000000 in
theorem I2 {w:a6}(hx:Wi w A an ac m)(hal:an≤1048576):
    aO aF 191 #[.slice A an ac] w (Gv w (Is (.string (a8 (bB 10 m))))):=by
 refine bK Tryz.func191 rfl (n:=11) rfl (bq rfl) (args:= [.slice A an ac]) (bE [(0,.slice A an ac)] ⟨rfl,trivial⟩ (sr (mv 1 rfl (a0 (sr (mv 1 rfl (cl (vs:= [.slice A an ac,.int .i64 10]) (Ext.refl w) (TH hx hal (by decide) (by decide)) rfl (by kernel_rfl) fun xr3 v1 r3 e2 hw1=>?_)))))))
 obtain⟨_,_,rfl,rfl,rfl⟩:=r3
 refine mv 1 rfl (pu (v:= .string (a8 (bB 10 m))) rfl (pu (v:= .int .i64 0) rfl (mv 2 rfl (a0 (sr (mv 2 rfl (a0 (aM (aL [.string (a8 (bB 10 m))] rfl ⟨rfl,trivial⟩ ?_)))))))))
 exact⟨_,rfl,rfl,hw1⟩
@[irreducible] def bM:Nat:=1074
theorem i6:bM=1074:=by unfold bM;rfl
@[irreducible] def fN:Nat:=2098
theorem zF:fN=2098:=by unfold fN;rfl
@[irreducible] def iE:Nat:=1024
@[irreducible] def eH:Nat:=970
@[irreducible] def iD:Nat:=2045
theorem D5:iD=2045:=by unfold iD;rfl
@[irreducible] def lF:Nat:=2046
theorem LN:lF=2046:=by unfold lF;rfl
def rv (r:Nat):Nat:=if r<4503599627370496 then r else (4503599627370496+r%4503599627370496)*2^(r/4503599627370496-1)
theorem xW (h:r<4503599627370496):rv r=r:=by unfold rv;rw [if_pos h]
theorem lB (h:p=0∨4503599627370496≤m)(hm:m≤9007199254740992:=by omega):rv (p*4503599627370496+m)=m*2^p:=by
 by_cases h1:m<4503599627370496
 ·have hp:p=0:=by omega
  subst hp
  rw [iZ,f9,xW h1,Nat.pow_zero,cI]
 ·have hn:¬p*4503599627370496+m<4503599627370496:=by omega
  unfold rv
  rw [if_neg hn]
  by_cases h2:m=9007199254740992
  ·subst h2
   have e1:(p*4503599627370496+9007199254740992)/4503599627370496=p+2:=by omega
   have e2:(p*4503599627370496+9007199254740992)%4503599627370496=0:=by omega
   rw [e1,e2,show p+2-1=p+1 from rfl,cB]
   omega
  ·have e1:(p*4503599627370496+m)/4503599627370496=p+1:=by omega
   have e2:(p*4503599627370496+m)%4503599627370496=m-4503599627370496:=by omega
   rw [e1,e2,show p+1-1=p from rfl,show 4503599627370496+(m-4503599627370496)=m by omega]
theorem SB (r:Nat):∃p m,r=p*4503599627370496+m∧(p=0∨4503599627370496≤m)∧m<9007199254740992∧rv r=m*2^p∧rv (r+1)=(m+1)*2^p:=by
 by_cases h:r<4503599627370496
 ·refine⟨0,r,by omega,cE rfl,by omega,?_,?_⟩
  ·have:=lB (p:=0) (m:=r) (cE rfl);rwa [iZ,f9] at this
  ·have:=lB (p:=0) (m:=r+1) (cE rfl);rwa [iZ,f9] at this
 ·refine⟨r/4503599627370496-1,4503599627370496+r%4503599627370496,by omega,bR (by omega),by omega,?_,?_⟩
  ·have:=lB (p:=r/4503599627370496-1) (m:=4503599627370496+r%4503599627370496) (bR (by omega))
   rwa [show (r/4503599627370496-1)*4503599627370496+(4503599627370496+r%4503599627370496)=r by omega] at this
  ·have:=lB (p:=r/4503599627370496-1) (m:=4503599627370496+r%4503599627370496+1) (bR (by omega))
   rwa [show (r/4503599627370496-1)*4503599627370496+(4503599627370496+r%4503599627370496+1)=r+1 by omega] at this
theorem xU (r:Nat):rv r<rv (r+1):=by
 obtain⟨p,m,_,_,_,e1,e2⟩:=SB r
 rw [e1,e2]
 exact (Nat.mul_lt_mul_right (dW p)).2 (Nat.lt_succ_self m)
theorem xV {s:Nat}(h:r<s):rv r<rv s:=by
 induction s with
 | zero=>omega
 | succ s ih=>
  by_cases e:r=s
  ·subst e;exact xU r
  ·exact Nat.lt_trans (ih (by omega)) (xU s)
theorem qA {s:Nat}(h:r≤s:=by omega):rv r≤rv s:=by
 rcases Nat.lt_or_eq_of_le h with h | h
 ·exact Nat.le_of_lt (xV h)
 ·rw [h];exact b8 _
theorem GY {s:Nat}(h:rv r=rv s):r=s:=by
 rcases Nat.lt_trichotomy r s with h1 | h1 | h1
 ·have:=xV h1;omega
 ·exact h1
 ·have:=xV h1;omega
structure IsNear (X D r:Nat):Prop where
 lo:∀s,s+1=r→D*(rv s+rv r)≤2*X∧(D*(rv s+rv r)=2*X→r%2=0)
 hi:2*X≤D*(rv r+rv (r+1))∧(2*X=D*(rv r+rv (r+1))→r%2=0)
theorem IsNear.not_lt {s:Nat}(hD:0<D)(h:IsNear X D r)(h':IsNear X D s)(hlt:r<s):False:=by
 obtain⟨t,rfl⟩:∃t,s=t+1:=⟨s-1,by omega⟩
 obtain⟨a,b⟩:=h'.lo t rfl
 obtain⟨c,d⟩:=h.hi
 have h1:rv r≤rv t:=qA
 have h2:rv (r+1)≤rv (t+1):=qA
 have h3:D*(rv r+rv (r+1))≤D*(rv t+rv (t+1)):=eF D (by omega)
 have e:D*(rv r+rv (r+1))=D*(rv t+rv (t+1)):=by omega
 have e2:rv r+rv (r+1)=rv t+rv (t+1):=Nat.eq_of_mul_eq_mul_left hD e
 have e3:rv r=rv t:=by omega
 have e4:=GY e3
 subst e4
 have:=b (by omega)
 have:=d (by omega)
 omega
theorem IsNear.uniq {s:Nat}(hD:0<D)(h:IsNear X D r)(h':IsNear X D s):r=s:=by
 rcases Nat.lt_trichotomy r s with h1 | h1 | h1
 ·exact (h.not_lt hD h' h1).elim
 ·exact h1
 ·exact (h'.not_lt hD h h1).elim
theorem IsNear.cross (hD:0<D)(hE:0<E)(e:X*E=Y*D)(h:IsNear X D r):IsNear Y E r:=by
 have key:∀v:Nat,(D*v≤2*X→E*v≤2*Y)∧(2*X≤D*v→2*Y≤E*v)∧(E*v=2*Y→D*v=2*X):=by
  intro v
  have e1:E*(D*v)=D*(E*v):=by rw [←bH,←bH,bY E D]
  have e2:E*(2*X)=D*(2*Y):=by rw [Nat.mul_left_comm,Nat.mul_left_comm D,bY E,e,bY Y]
  refine⟨fun h=>?_,fun h=>?_,fun h=>?_⟩
  ·have:=eF E h
   rw [e1,e2] at this
   exact Nat.le_of_mul_le_mul_left this hD
  ·have:=eF E h
   rw [e1,e2] at this
   exact Nat.le_of_mul_le_mul_left this hD
  ·have:D*(E*v)=D*(2*Y):=by rw [h]
   rw [←e1,←e2] at this
   exact Nat.eq_of_mul_eq_mul_left hE this
 refine⟨fun s hs=>⟨(key _).1 (h.lo s hs).1,fun h2=>(h.lo s hs).2 ((key _).2.2 h2)⟩,(key _).2.1 h.hi.1,fun h2=>h.hi.2 ((key _).2.2 h2.symm).symm⟩
def iP (m0 R G:Nat):Nat:=if G<2*R∨(G=2*R∧m0%2=1) then m0+1 else m0
theorem SZ (hG:0<G):∃m,iP (X/G) (X%G) G=m∧(m=X/G∨m=X/G+1)∧(∀k,k+1=m→G*(k+m)≤2*X∧(G*(k+m)=2*X→m%2=0))∧2*X≤G*(m+(m+1))∧(2*X=G*(m+(m+1))→m%2=0):=by
 have e:=iA X G
 have hlt:=eO X hG
 generalize X/G=q at*
 generalize X%G=R at*
 refine⟨_,rfl,?_⟩
 unfold iP
 have e0:G*(q+(q+1))=2*(G*q)+G:=by simp only [cT,cI];omega
 have e1:G*(q+1+(q+1+1))=2*(G*q)+3*G:=by simp only [cT,cI];omega
 split
 ·rename_i h
  refine⟨bR rfl,fun k hk=>?_,?_,fun h2=>?_⟩
  ·have hk:k=q:=by omega
   subst hk
   rw [e0]
   refine⟨by omega,fun h2=>by omega⟩
  ·rw [e1];omega
  ·rw [e1] at h2;omega
 ·rename_i h
  refine⟨cE rfl,fun k hk=>?_,?_,fun h2=>?_⟩
  ·have e2:G*(k+q)=2*(G*q)-G:=by
    subst hk
    have:G*(k+(k+1))+G=2*(G*(k+1)):=by simp only [cT,cI];omega
    omega
   have:G≤G*q:=Nat.le_mul_of_pos_right G (by omega)
   rw [e2]
   refine⟨by omega,fun h2=>by omega⟩
  ·rw [e0];omega
  ·rw [e0] at h2;omega
theorem W9 {a:Nat}(e:p+a=2*b)(h:b≤X)(hp:0<a):p≤2*X∧(p=2*X→m%2=0):=⟨by omega,fun h=>by omega⟩
theorem WC {a:Nat}(h:a*2*4503599627370496≤X)(hp:0<a):a*18014398509481983≤2*X∧(a*18014398509481983=2*X→m%2=0):=
 W9 (by omega) h hp
theorem CH (hD:0<D)(h1:X<D*2^p*9007199254740992)(h2:p=0∨D*2^p*4503599627370496≤X):
  IsNear X D (p*4503599627370496+iP (X/(D*2^p)) (X%(D*2^p)) (D*2^p)):=by
 have hG:0<D*2^p:=fS hD (dW p)
 obtain⟨m,hm,hc,hlo,hhi⟩:=SZ (X:=X) hG
 rw [hm]
 have hq1:X/(D*2^p)<9007199254740992:=(k0 hG).2 (by rw [bY];exact h1)
 have hq2:p=0∨4503599627370496≤X/(D*2^p):=by
  rcases h2 with h | h
  ·exact cE h
  ·exact bR ((Nat.le_div_iff_mul_le hG).2 (by rw [bY];exact h))
 have hf:p=0∨4503599627370496≤m:=by omega
 have hr:rv (p*4503599627370496+m)=m*2^p:=lB hf
 have hpar:(p*4503599627370496+m)%2=m%2:=by omega
 have e:∀v,D*(v*2^p)=D*2^p*v:=fun v=>by rw [bH,bY v]
 refine⟨fun s hs=>?_,?_⟩
 ·rw [hpar,hr]
  by_cases hb:p=0∨4503599627370496<m
  ·obtain⟨k,rfl⟩:∃k,m=k+1:=⟨m-1,by rcases hb with h | h <;> omega⟩
   have hs2:s=p*4503599627370496+k:=by omega
   have hr2:rv s=k*2^p:=by rw [hs2];exact lB (by omega)
   rw [hr2,←dX,e]
   exact hlo k rfl
  ·have hm2:m=4503599627370496:=by omega
   obtain⟨p',rfl⟩:∃p',p=p'+1:=⟨p-1,by omega⟩
   have hs2:s=p'*4503599627370496+9007199254740991:=by omega
   have hr2:rv s=9007199254740991*2^p':=by rw [hs2];exact lB (by omega)
   have h2':D*2^(p'+1)*4503599627370496≤X:=by omega
   have e0:9007199254740991*2^p'+4503599627370496*(2^p'*2)=2^p'*18014398509481983:=by omega
   have e3:D*(rv s+m*2^(p'+1))=D*2^p'*18014398509481983:=by rw [hr2,hm2,cB,e0,bH D]
   have e4:D*2^(p'+1)=D*2^p'*2:=by rw [cB,bH]
   have hpos:0<D*2^p':=fS hD (dW p')
   rw [e3]
   rw [e4] at h2'
   exact WC h2' hpos
 ·rw [hpar]
  have hup:(m+1)*2^p≤rv (p*4503599627370496+m+1)∧(rv (p*4503599627370496+m+1)≠(m+1)*2^p→m%2=0):=by
   by_cases hb:m=9007199254740992
   ·refine⟨?_,fun _=>by omega⟩
    have:rv ((p+1)*4503599627370496+4503599627370497)=4503599627370497*2^(p+1):=lB (bR (by omega))
    rw [show p*4503599627370496+m+1=(p+1)*4503599627370496+4503599627370497 by omega,this,hb,cB]
    omega
   ·have:rv (p*4503599627370496+(m+1))=(m+1)*2^p:=lB (by omega)
    rw [j0,this]
    exact⟨b8 _,fun h=>absurd rfl h⟩
  rw [hr]
  have e5:D*(m*2^p+(m+1)*2^p)=D*2^p*(m+(m+1)):=by rw [←dX,e]
  have h6:D*(m*2^p+(m+1)*2^p)≤D*(m*2^p+rv (p*4503599627370496+m+1)):=eF D (by omega)
  refine⟨by rw [e5] at h6;omega,fun h=>?_⟩
  by_cases hz:rv (p*4503599627370496+m+1)=(m+1)*2^p
  ·rw [hz,e5] at h
   exact hhi.2 h
  ·exact hup.2 hz
def gY (X D:Nat):Nat:=
 let p:=(X/D).log2-52
 p*4503599627370496+iP (X/(D*2^p)) (X%(D*2^p)) (D*2^p)
theorem CI (hD:0<D):IsNear X D (gY X D):=by
 unfold gY
 have hmd:=iA X D
 have hml:=eO X hD
 refine CH hD ?_ ?_
 ·have h1:X/D<2^((X/D).log2-52)*9007199254740992:=by
   by_cases h0:X/D=0
   ·rw [h0];exact fS (dW _) (by decide)
   ·have h2:X/D<2^((X/D).log2+1):=Nat.lt_log2_self
    refine dF h2 ?_
    rw [show (9007199254740992:Nat)=2^53 from rfl,←bX]
    exact dU (by decide) (by omega)
  rw [bH]
  rw [bY]
  exact (k0 hD).1 h1
 ·by_cases hp:(X/D).log2-52=0
  ·exact cE hp
  ·right
   have h0:X/D≠0:=fun h=>hp (by rw [h];rfl)
   have h2:2^(X/D).log2≤X/D:=Nat.log2_self_le h0
   have h3:2^((X/D).log2-52)*4503599627370496≤X/D:=by
    rw [show (4503599627370496:Nat)=2^52 from rfl,←bX,show (X/D).log2-52+52=(X/D).log2 by omega]
    exact h2
   rw [bH,bY]
   exact (Nat.le_div_iff_mul_le hD).1 h3
theorem vJ (hD:0<D)(h:IsNear X D r):gY X D=r:=(CI hD).uniq hD h
theorem WF (hD:0<D)(hE:0<E)(e:X*E=Y*D):gY X D=gY Y E:=(vJ hE ((CI hD).cross hD hE e)).symm
theorem IsNear.self (hD:0<D):IsNear (D*rv r) D r:=by
 refine⟨fun s hs=>?_,?_,fun h=>?_⟩
 ·have h1:rv s<rv r:=xV (by omega)
  have h2:D*(rv s+rv r)<D*(2*rv r):=(Nat.mul_lt_mul_left hD).2 (by omega)
  have e:D*(2*rv r)=2*(D*rv r):=Nat.mul_left_comm _ _ _
  exact⟨by omega,fun h=>by omega⟩
 ·have h1:=xU r
  have h2:D*(2*rv r)≤D*(rv r+rv (r+1)):=eF D (by omega)
  have e:D*(2*rv r)=2*(D*rv r):=Nat.mul_left_comm _ _ _
  omega
 ·have h1:=xU r
  have h2:D*(2*rv r)<D*(rv r+rv (r+1)):=(Nat.mul_lt_mul_left hD).2 (by omega)
  have e:D*(2*rv r)=2*(D*rv r):=Nat.mul_left_comm _ _ _
  omega
theorem JV (hD:0<D):gY (D*rv r) D=r:=vJ hD (IsNear.self hD)
theorem WE {s:Nat}(hD:0<D)(he:(s+1)%2=0):s+1≤gY X D↔D*(rv s+rv (s+1))≤2*X:=by
 have h:=CI (X:=X) hD
 constructor
 ·intro hle
  obtain⟨t,ht⟩:∃t,gY X D=t+1:=⟨gY X D-1,by omega⟩
  rw [ht] at h hle
  have h1:=(h.lo t rfl).1
  have h2:rv s≤rv t:=qA
  have h3:rv (s+1)≤rv (t+1):=qA
  exact aG (eF D (by omega)) h1
 ·intro hle
  refine pQ fun hlt=>?_
  have h1:=h.hi.1
  have h2:rv (gY X D)≤rv s:=qA
  have h3:rv (gY X D+1)≤rv (s+1):=qA
  have h4:D*(rv (gY X D)+rv (gY X D+1))≤D*(rv s+rv (s+1)):=eF D (by omega)
  have e:rv (gY X D)+rv (gY X D+1)=rv s+rv (s+1):=Nat.eq_of_mul_eq_mul_left hD (by omega)
  have e2:gY X D=s:=GY (by omega)
  have h5:=h.hi.2 (by omega)
  omega
theorem HU {R:Nat}(hk:0<k):iP m (R*k) (G*k)=iP m R G:=by
 unfold iP
 have e1:(G*k<2*(R*k))↔(G<2*R):=by rw [←bH];exact Nat.mul_lt_mul_right hk
 have e2:(G*k=2*(R*k))↔(G=2*R):=by rw [←bH];exact⟨fun h=>Nat.eq_of_mul_eq_mul_right hk h,fun h=>by rw [h]⟩
 simp only [e1,e2]
theorem JT (hD:0<D)(hE:0<E)(hd:0<d)(hx:N*2^p*D=X*(E*2^d))(h1:bA (N/E)≤d+53)(h2:p=0∨bA (N/E)=d+53):
  gY X D=p*4503599627370496+(if 2^(d-1)<N/E%2^d∨(N/E%2^d=2^(d-1)∧(N%E≠0∨N/E/2^d%2=1)) then N/E/2^d+1 else N/E/2^d):=by
 have hH:0<2^d:=dW d
 have hP:0<2^p:=dW p
 have hG:0<E*2^d:=fS hE hH
 have eN:=iA N E
 have hR:=eO N hE
 have eq:=iA (N/E) (2^d)
 have hC:=eO (N/E) hH
 have hdd:N/(E*2^d)=N/E/2^d:=by rw [Nat.div_div_eq_div_mul]
 have hmm:N%(E*2^d)=E*(N/E%2^d)+N%E:=by
  have e3:=iA N (E*2^d)
  rw [hdd] at e3
  have e4:E*(N/E)=E*2^d*(N/E/2^d)+E*(N/E%2^d):=by
   rw [bH,←cT,eq]
  omega
 have hhalf:2^d=2*2^(d-1):=by
  obtain⟨c,rfl⟩:∃c,d=c+1:=⟨d-1,by omega⟩
  rw [Nat.pow_succ',Nat.add_sub_cancel]
 have key:iP (N/(E*2^d)) (N%(E*2^d)) (E*2^d)=(if 2^(d-1)<N/E%2^d∨(N/E%2^d=2^(d-1)∧(N%E≠0∨N/E/2^d%2=1)) then N/E/2^d+1 else N/E/2^d):=by
  unfold iP
  rw [hdd,hmm]
  generalize N/E%2^d=c at*
  generalize N/E/2^d=m0 at*
  generalize N%E=r at*
  rw [hhalf]
  generalize 2^(d-1)=hf at*
  have e0:E*(2*hf)=2*(E*hf):=Nat.mul_left_comm _ _ _
  rw [e0]
  rcases Nat.lt_trichotomy c hf with hc | hc | hc
  ·have h3:E*(c+1)≤E*hf:=eF E hc
   rw [cT,cI] at h3
   rw [if_neg (by omega),if_neg (by omega)]
  ·subst hc
   by_cases h:r≠0∨m0%2=1
   ·rw [if_pos (by omega),if_pos (by omega)]
   ·rw [if_neg (by omega),if_neg (by omega)]
  ·have h3:E*(hf+1)≤E*c:=eF E hc
   rw [cT,cI] at h3
   rw [if_pos (by omega),if_pos (cE hc)]
 rw [←key]
 have e5:E*2^d*2^p=E*2^d*2^p:=rfl
 have hq1:N/E<2^d*9007199254740992:=by
  refine dF (jV _) ?_
  rw [show (9007199254740992:Nat)=2^53 from rfl,←bX]
  exact dU (by decide) h1
 have hX1:N<E*2^d*9007199254740992:=by
  rw [bH,bY]
  exact (k0 hE).1 hq1
 have hn:=CH (X:=N*2^p) (D:=E*2^d) (p:=p) hG (by
  rw [kH]
  exact (Nat.mul_lt_mul_right hP).2 hX1) (by
  rcases h2 with h | h
  ·exact cE h
  ·right
   have hq0:N/E≠0:=fun e=>by rw [e,kV] at h;omega
   have h3:=lH hq0
   have h4:2^d*4503599627370496≤N/E:=by
    rw [show (4503599627370496:Nat)=2^52 from rfl,←bX]
    rw [h] at h3
    exact h3
   rw [kH]
   refine eA _ ?_
   rw [bH,bY]
   exact (Nat.le_div_iff_mul_le hE).1 h4)
 rw [rA _ _ hP,sK,HU hP] at hn
 exact vJ hD (hn.cross hG hD hx)
theorem CG (hD:0<D)(h:2*X<D):gY X D=0:=by
 refine vJ hD ⟨fun s hs=>by omega,?_,fun h2=>?_⟩
 ·rw [xW (by omega),xW (by omega)];omega
 ·rfl
theorem D4:(2:Nat)^fN=9007199254740992*2^iD:=by
 have h:fN=53+iD:=by rw [zF,D5]
 rw [h,bX]
theorem SI (h:p=2045):p*4503599627370496+9007199254740991=9218868437227405311:=by subst h;decide
theorem SH (h:p=2046):p*4503599627370496+4503599627370496=9218868437227405312:=by subst h;decide
theorem SA:rv 9218868437227405311=9007199254740991*2^iD:=by
 have h:=lB (p:=iD) (m:=9007199254740991) (bR (by decide)) (hm:=(by decide))
 rw [SI D5] at h
 exact h
theorem GZ:rv 9218868437227405312=2^fN:=by
 have h:=lB (p:=lF) (m:=4503599627370496) (bR (by decide)) (hm:=(by decide))
 rw [SH LN] at h
 have e:lF=iD+1:=by rw [LN,D5]
 rw [h,D4,e,cB]
 omega
theorem W8 (hD:0<D)(h:D*(2^fN*2)≤X):9218868437227405312≤gY X D:=by
 have h1:(9218868437227405311+1)≤gY X D↔_:=WE hD (by decide)
 refine h1.2 ?_
 rw [show 9218868437227405311+1=9218868437227405312 from rfl,SA,GZ,D4]
 rw [D4] at h
 have h3:D*(9007199254740991*2^iD+9007199254740992*2^iD)≤D*(9007199254740992*2^iD*2):=eF D (by omega)
 omega
theorem MY (hE:0<E)(h:bA N=bA E+55):bA (N/E)=55∨bA (N/E)=56:=by
 have hN:N≠0:=fun e=>by rw [e,kV] at h;omega
 have h1:=lH hN
 have h2:=jV N
 have h3:=lH (n:=E) (by omega)
 have h4:=jV E
 have hb:bA E≠0:=fun e=>by have:=kD.1 e;omega
 have hlo:2^54≤N/E:=by
  refine (Nat.le_div_iff_mul_le hE).2 (aG (eF _ (Nat.le_of_lt h4)) ?_)
  rw [←bX]
  exact aG (dU (by decide) (by omega)) h1
 have hhi:N/E<2^56:=by
  refine (k0 hE).2 (dF h2 ?_)
  refine aG ?_ (eF _ h3)
  rw [←bX]
  exact dU (by decide) (by omega)
 by_cases hc:N/E<2^55
 ·exact cE (rY hc (bR hlo))
 ·exact bR (rY hhi (bR (by omega)))
theorem zR {s:Nat}(h:n≠0):bA (n*2^s)=bA n+s:=by
 refine rY ?_ (bR ?_)
 ·rw [bX];exact (Nat.mul_lt_mul_right (dW s)).2 (jV n)
 ·have hb:bA n≠0:=fun e=>h (kD.1 e)
  rw [show bA n+s-1=(bA n-1)+s by omega,bX]
  exact eA _ (lH h)
def cU (X D:Nat):Nat:=min (gY X D) 9218868437227405312
end
section
open Go.RowKit
open Ieee
theorem tR:double.signWeight=9223372036854775808:=by decide
theorem vZ:double.binade=4503599627370496:=by decide
theorem vY:double.infRung=9218868437227405312:=by decide
theorem M4:double.leastPlace= -1074:=by decide
def mg (b:Nat):Nat:=b%9223372036854775808
def fin (b:Nat):Prop:=mg b<9218868437227405312
instance (b:Nat):Decidable (fin b):=inferInstanceAs (Decidable (_<_))
theorem U1 (h:fin b):∃m e,double.read b= .number (b/9223372036854775808%2==1) m e∧(m=0↔mg b=0):=by
 unfold fin mg at h
 unfold Format.read mg
 simp only [tR,vZ,vY]
 by_cases h1:b%9223372036854775808<4503599627370496
 ·exact⟨_,_,by rw [if_pos h1],Iff.rfl⟩
 ·exact⟨_,_,by rw [if_neg h1,if_pos h],by omega⟩
theorem TZ (h:¬fin b):(∃s,double.read b= .infinity s)∨(∃s t,double.read b= .nan s t):=by
 unfold fin mg at h
 unfold Format.read
 simp only [tR,vZ,vY]
 rw [if_neg (by omega),if_neg (by omega)]
 by_cases h1:b%9223372036854775808=9218868437227405312
 ·exact cE ⟨_,by rw [if_pos h1]⟩
 ·exact bR ⟨_,_,by rw [if_neg h1]⟩
theorem IB:double.read 0= .number false 0 (-1074):=by decide
theorem VH (h:fin b):double.order b 0=some (if mg b=0 then .eq else if b/9223372036854775808%2=1 then .lt else .gt):=by
 obtain⟨m,e,hr,hz⟩:=U1 h
 unfold Format.order
 rw [hr,IB]
 simp only [Datum.order]
 have e0:signed false 0 (-1074-min e (-1074)).toNat=0:=by unfold signed;simp
 rw [e0]
 generalize (e-min e (-1074)).toNat=k
 have hk:m <<< k=m*2^k:=Nat.shiftLeft_eq m k
 have hp:0<2^k:=dW k
 congr 1
 by_cases h0:mg b=0
 ·have hm:m=0:=hz.2 h0
  subst hm
  rw [if_pos h0]
  unfold signed
  simp
 ·have hm:0<m:=Nat.pos_of_ne_zero fun e=>h0 (hz.1 e)
  have hmk:0<m*2^k:=fS hm hp
  rw [if_neg h0]
  unfold signed
  rw [hk]
  by_cases hs:b/9223372036854775808%2=1
  ·rw [if_pos hs,hs]
   simp only [beq_self_eq_true,if_true]
   rw [Int.compare_eq_lt];omega
  ·have hs0:b/9223372036854775808%2=0:=by omega
   rw [if_neg hs,hs0]
   simp only [show ((0:Nat)==1)=false from rfl,Bool.false_eq_true,if_false]
   rw [Int.compare_eq_gt];omega
theorem VG (h:¬fin b):(double.order b 0==some .eq)=false:=by
 unfold Format.order
 rw [IB]
 rcases TZ h with⟨s,hr⟩ | ⟨s,t,hr⟩
 ·rw [hr];cases s <;> rfl
 ·rw [hr];rfl
end
section
open Go.RowKit
theorem C5 {l:Fr}{w:a6}{t t':aT}{x y:cS}{u v r:aH}(hx:bZ l x=some u)(hy:bZ l y=some v)(ho:CF o=true)(hb:∀w,(binOp o t u v).run P w= .ok r w):iT P n l ⟨dst,.binOp o t x y t',ty,pos,af,gd⟩ w (.value r) w:=fun a' ha=>by
 have e:((do eqGuard o t x y (a'.eval x) (a'.eval y);binOp o t (a'.eval x) (a'.eval y)):Sem aH).run P w= .ok r w:=by
  rw [ha.ev hx,ha.ev hy];exact H5 ho (hb w)
 show ((((do eqGuard o t x y (a'.eval x) (a'.eval y);binOp o t (a'.eval x) (a'.eval y)):Sem aH)>>=fun r=>pure (fZ r)):Sem Next).run P w=_
 rw [cK,e];rfl
structure ShlI (xs l:List Nat)(q s k i:Nat):Prop where
 len:l.length=q+k+1
 wf:Wf l
 val:nv l=WB^q*(nv (xs.take i)*2^s)
 lo:l.getD (q+i) 0<2^s
 up:∀j,q+i<j→l.getD j 0=0
theorem ShlI.init {s:Nat}:ShlI xs (bP (q+k+1) 0) q s k 0:=by
 have h0:∀j,(bP (q+k+1) 0).getD j 0=0:=fun j=>by
  rw [bC,List.getElem?_replicate];split <;> rfl
 refine⟨List.length_replicate,fun x hx=>by rw [List.eq_of_mem_replicate hx];exact gE,?_,?_,fun j _=>h0 j⟩
 ·rw [yH,List.take_zero];simp [nv]
 ·rw [h0];exact dW s
theorem ShlI.step {s:Nat}(h:ShlI xs l q s k i)(hx:Wf xs)(hi:i<k)(hk:k≤xs.length)(hs:s<64):
  ShlI xs ((l.set (q+i) (l.getD (q+i) 0||| xs.getD i 0*2^s%18446744073709551616)).set (q+i+1) (xs.getD i 0/2^(64-s))) q s k (i+1):=by
 have hxb:xs.getD i 0<18446744073709551616:=by have:=oD hx i;rwa [cF] at this
 have hl:=h.len
 have hp:0<2^s:=dW s
 have hpp:2^s*2^(64-s)=18446744073709551616:=by rw [←bX,show s+(64-s)=64 by omega]
 have hmod:xs.getD i 0*2^s%18446744073709551616=xs.getD i 0%2^(64-s)*2^s:=by
  rw [←hpp,bY (2^s),sK]
 have hor:l.getD (q+i) 0||| xs.getD i 0*2^s%18446744073709551616=xs.getD i 0%2^(64-s)*2^s+l.getD (q+i) 0:=by
  rw [hmod,Nat.or_comm,vG h.lo]
 rw [hor]
 have hlt:xs.getD i 0%2^(64-s)*2^s+l.getD (q+i) 0<18446744073709551616:=by
  have h1:=eO (xs.getD i 0) (dW (64-s))
  have h2:(xs.getD i 0%2^(64-s)+1)*2^s≤2^(64-s)*2^s:=eA _ h1
  rw [bY (2^(64-s)),hpp,dX,Nat.one_mul] at h2
  have:=h.lo
  omega
 have hq:xs.getD i 0/2^(64-s)<2^s:=by
  refine (k0 (dW _)).2 ?_
  rw [hpp];exact hxb
 have hqw:xs.getD i 0/2^(64-s)<WB:=by rw [cF];exact iH (fI _ _) hxb
 have hg1:q+i<l.length:=by omega
 have hg2:q+i+1<(l.set (q+i) (xs.getD i 0%2^(64-s)*2^s+l.getD (q+i) 0)).length:=by rw [List.length_set];omega
 have e1:=nW hg1 (xs.getD i 0%2^(64-s)*2^s+l.getD (q+i) 0)
 have e2:=nW hg2 (xs.getD i 0/2^(64-s))
 have e3:(l.set (q+i) (xs.getD i 0%2^(64-s)*2^s+l.getD (q+i) 0)).getD (q+i+1) 0=0:=by
  rw [bC,List.getElem?_set_ne (by omega),←bC];exact h.up _ (by omega)
 refine⟨by rw [List.length_set,List.length_set];exact hl,?_,?_,?_,?_⟩
 ·exact gS (gS h.wf _ (by rw [cF];exact hlt)) _ hqw
 ·rw [e3,Nat.mul_zero,Nat.add_zero] at e2
  have e4:=fB xs i (by omega)
  have e5:=iA (xs.getD i 0) (2^(64-s))
  have hn:=h.val
  rw [e2,e4]
  rw [hn] at e1
  generalize nv (l.set (q+i) (xs.getD i 0%2^(64-s)*2^s+l.getD (q+i) 0))=V at*
  generalize xs.getD i 0%2^(64-s)=r at*
  generalize xs.getD i 0/2^(64-s)=d at*
  generalize nv (xs.take i)=T at*
  have f1:WB^(q+i+1)=WB^(q+i)*WB:=cB _ _
  have f2:WB^(q+i)=WB^q*WB^i:=bX _ _ _
  have f3:xs.getD i 0*2^s=d*WB+r*2^s:=by
   rw [←e5,dX,cF,←hpp,kH,bY (2^(64-s)*2^s),bY (2^(64-s))]
  have f4:WB^q*((T+WB^i*xs.getD i 0)*2^s)=WB^q*(T*2^s)+WB^(q+i)*(d*WB+r*2^s):=by
   rw [dX,cT,bH (WB^i),f3,f2,bH (WB^q) (WB^i)]
  rw [f4,f1]
  rw [cT] at e1⊢
  rw [bH (WB^(q+i)) WB,bY WB d]
  omega
 ·rw [show q+(i+1)=q+i+1 by omega,bC,List.getElem?_set_self hg2];exact hq
 ·intro j hj
  rw [bC,List.getElem?_set_ne (by omega),List.getElem?_set_ne (by omega),←bC]
  exact h.up j (by omega)
theorem ShlI.done {s:Nat}(h:ShlI xs l q s k k)(hw:Wf xs)(hk:k=(wd (nv xs)).length)(hn:n=64*q+s):nv l=nv xs*2^n:=by
 rw [h.val,oY hw hk,hn,bX,Nat.pow_mul,←lY,Nat.mul_left_comm]
set_option maxHeartbeats 4000000 in
theorem YV {w:a6}(hb0:b≤w.heap.size)(hx:Rd w A m cap xs)(hm:m≤1073741824)(hn:n≤1048576):
    aO aF 181 #[.slice A m cap,.int .i64 n] w (Gv w (T2 (WR b (nv xs*2^n)) (Is (.int .i64 0)))):=by
 refine bK Tryz.func181 rfl (n:=67) rfl (bq rfl) (args:= [.slice A m cap,.int .i64 n]) (bE [(0,.slice A m cap),(1,.int .i64 n)] ⟨rfl,rfl,trivial⟩ (sr (mv 2 rfl (a0 (aA (bG (sr (mv 1 rfl (aB rfl rfl rfl false (cX (a:=n) (b:=0) rfl rfl) (mv 1 rfl (a0 (aI rfl (aA ?_)))))))))))))
 refine a7 (mv 1 rfl (aB rfl rfl rfl false (d6 (a:=n) (b:=1048576) rfl rfl) (mv 1 rfl (a0 (aI rfl (aN (cA (aD (sr (mv 1 rfl (dD rfl rfl (vs:= [.slice A m cap]) (by kernel_rfl) (by decide) (k9 hx) ?_)))))))))))
 rintro _ _ ⟨k1,hk1,hnk1,rfl,rfl⟩
 refine dE ?_
 have hk1:=hk1.out
 refine mv 1 rfl (a0 (aA (aA ?_)))
 by_cases hk0:k1=0
 · 
  refine a7 (mv 1 rfl (aB rfl rfl rfl true (dA (a:=k1) (b:=0) rfl rfl) (a0 (aP rfl (sr (mv 2 rfl (a0 (aM (bL (aL [S0,I0] rfl ⟨rfl,rfl,trivial⟩ ?_))))))))))
  have h0:nv xs=0:=jN.1 (by omega)
  rw [h0,iZ]
  exact⟨_,rfl,⟨_,_,rfl,⟨none,0,0,rfl,rfl,Own.nil _ _ _ _⟩,rfl⟩,(Ext.refl w)⟩
 · 
  refine a7 (mv 1 rfl (aB rfl rfl rfl false (dC (a:=k1) (b:=0) rfl rfl) (a0 (aI rfl (aN (aD (aA ?_)))))))
  have hkl:k1≤xs.length:=by have:=hx.len;omega
  have hq:n=64*(n/64)+n%64:=(iA n 64).symm
  have hs64:n%64<64:=eO _ (by decide)
  have hqn:n/64≤n:=fI _ _
  refine a7 (mv 1 rfl (aE rfl rfl rfl ((n/64:Nat):Int) (iS (a:=n) (b:=64) rfl rfl) (mv 1 rfl (aE rfl rfl rfl ((n%64:Nat):Int) (fC (a:=n) (b:=64) rfl rfl) (bD rfl rfl (v:= .int .u64 (IntKind.u64.wrap ((n%64:Nat):Int))) (v':= .int .u64 ((n%64:Nat):Int)) (eD (by first | omega | exact (by have:=eO (xs.getD i 0*2^(n%64)) (show 0<18446744073709551616 by decide);omega))) (mv 2 rfl (a0 (sr (mv 2 rfl (aE rfl rfl rfl (((n/64)+k1:Nat):Int) (bF (a:=n/64) (b:=k1) rfl rfl) (aE rfl rfl rfl ((((n/64)+k1)+1:Nat):Int) (bF (a:=(n/64)+k1) (b:=1) rfl rfl) (l7 rfl (k:=((n/64)+k1)+1) rfl rfl rfl bU jE rfl fun g2 v3 hg4 hb5 e6=>?_))))))))))))
  rw [kR] at hb5
  have ge7:w.heap.size≤g2:=by rw [←hg4];exact (Ext.refl w).size
  have ne9:0<cap→∀a,A=some a→a.block≠g2:=fun hc a ha=>by have:=(hx).rv.blk a ha hc;omega
  clear hg4
  have hw1:=(Ext.refl w).trans e6
  refine mv 1 rfl (a0 (aA (sr (mv 2 rfl (a0 (bG ?_))))))
  refine d4 (T:=a6×Nat×List Nat)
   (fun⟨wr,i,l⟩=> [(0,.slice A m cap),(6,.int .i64 k1),(7,.int .i64 ((n/64:Nat):Int)),(8,.int .u64 ((n%64:Nat):Int)),(9,.slice (some ⟨g2,0,none⟩) (((n/64)+k1)+1) (((n/64)+k1)+1)),(31,.int .i64 k1),(32,.int .i64 i)])
   (fun⟨wr,i,l⟩=>wr)
   (fun⟨wr,i,l⟩=>(Ext w wr)∧(i≤k1)∧(Bk wr g2 65 (l.map aW))∧(ShlI xs l (n/64) (n%64) k1 i)∧(Rd wr A m cap xs))
   (fun⟨wr,i,l⟩=>k1-i)
   (⟨v3,0,_⟩:a6×Nat×List Nat) ⟨hw1,(bW _),hb5,ShlI.init,(hx.ext e6)⟩ rfl ⟨rfl,rfl,rfl,rfl,rfl,rfl,rfl,trivial⟩ ?_
  rintro⟨wr,i,l⟩ ⟨hw1,hi,hb,hI,rl0⟩
  refine cC [(0,.slice A m cap),(6,.int .i64 k1),(7,.int .i64 ((n/64:Nat):Int)),(8,.int .u64 ((n%64:Nat):Int)),(9,.slice (some ⟨g2,0,none⟩) (((n/64)+k1)+1) (((n/64)+k1)+1)),(31,.int .i64 k1),(32,.int .i64 i)] wr rfl ⟨rfl,rfl,rfl,rfl,rfl,rfl,rfl,trivial⟩ (aA ?_)
  by_cases hik:i<k1
  · 
   have hxb:xs.getD i 0≤18446744073709551615:=by have:=oD hx.wf i;rw [cF] at this;omega
   have hlb:l.getD (n/64+i) 0≤18446744073709551615:=by have:=oD hI.wf (n/64+i);rw [cF] at this;omega
   have hlen:=hI.len
   refine a7 (aB rfl rfl rfl true (dB (a:=i) (b:=k1) rfl rfl) (a0 (aA (aP rfl (aN (aD (aA (bG (sr (mv 2 rfl (a0 (aA (bE [(0,.slice A m cap),(6,.int .i64 k1),(7,.int .i64 ((n/64:Nat):Int)),(8,.int .u64 ((n%64:Nat):Int)),(9,.slice (some ⟨g2,0,none⟩) (((n/64)+k1)+1) (((n/64)+k1)+1)),(31,.int .i64 k1),(32,.int .i64 i),(33,.bool true),(34,.int .i64 i),(10,.int .i64 i)] ⟨rfl,rfl,rfl,rfl,rfl,rfl,rfl,rfl,rfl,rfl,trivial⟩ ?_)))))))))))))
   obtain⟨v10,hv,e11⟩:∃v,v=wr.drew∧Ext wr v:=⟨_,rfl,(Ext.refl _).drew⟩
   have hw2:=hw1.trans e11
   obtain⟨p12,hp12,hc12,hv12⟩:=((rl0.ext e11)).at (i:=i) (by omega)
   have hb14:=(hb.ext e11)
   obtain⟨v13,hr18,hb15,u16,hs17⟩:=uV (P:=aF) (v:= .int .u64 (((l.getD ((n/64)+i) 0)||| ((xs.getD i 0)*2^(n%64)%18446744073709551616):Nat):Int)) (off:=(n/64)+i) bN rfl hb14 (fK (by rw [hI.len];omega)) rfl ((l.set ((n/64)+i) ((l.getD ((n/64)+i) 0)||| ((xs.getD i 0)*2^(n%64)%18446744073709551616))).map aW) (eG _ _ _)
   have hw3:=u16.ext hw2 ge7
   refine nA eZ (w:=v10) [.slice (some ⟨g2,0,none⟩) (((n/64)+k1)+1) (((n/64)+k1)+1),.int .i64 ((n/64:Nat):Int),.int .i64 i,.int .i64 (((n/64)+i:Nat):Int),.pointer (some (⟨g2,(n/64)+i,none⟩)),.int .u64 ((l.getD ((n/64)+i) 0:Nat):Int),.slice A m cap,.int .i64 i,.pointer (some p12),.int .u64 ((xs.getD i 0:Nat):Int),.int .u64 ((n%64:Nat):Int),.int .u64 (((xs.getD i 0)*2^(n%64)%18446744073709551616:Nat):Int),.int .u64 (((l.getD ((n/64)+i) 0)||| ((xs.getD i 0)*2^(n%64)%18446744073709551616):Nat):Int),.pointer (some (⟨g2,(n/64)+i,none⟩)),undef] [v10,v13] [14] [[],[],[],[1,2],[0,3],[4],[],[],[6,7],[8],[],[9,10],[5,11],[0,3],[12,13]] [[],[],[],[1,2],[0,1,2,3],[0,1,2,3,4],[],[],[6,7],[6,7,8],[],[6,7,8,9,10],[0,1,2,3,4,5,6,7,8,9,10,11],[0,1,2,3,4,5,6,7,8,9,10,11,12],[0,1,2,3,4,5,6,7,8,9,10,11,12,13]] [(0,0),(1,0),(2,0),(3,0),(4,0),(5,0),(6,0),(7,0),(8,0),(9,0),(10,0),(11,0),(12,0),(13,0),(14,0)] rfl hv ?_ ?_
   · 
    refine bI _ rfl rfl rfl rfl rfl (dO rfl) (bI _ rfl rfl rfl rfl rfl (dO rfl) (bI _ rfl rfl rfl rfl rfl (dO rfl) (bI _ rfl rfl rfl rfl rfl (lN rfl rfl (((n/64)+i:Nat):Int) (bF (a:=n/64) (b:=i) rfl rfl)) (bI _ rfl rfl rfl rfl rfl (gX rfl rfl bU bN ((n/64)+i) rfl ⟨g2,(n/64)+i,none⟩ (dP _ _)) (bI _ rfl rfl rfl rfl rfl (gW rfl (iW d7 (hb.ext e11) (by rw [hI.len];omega))) (bI _ rfl rfl rfl rfl rfl (dO rfl) (bI _ rfl rfl rfl rfl rfl (dO rfl) (bI _ rfl rfl rfl rfl rfl (gX rfl rfl bU bN i rfl p12 hp12) (bI _ rfl rfl rfl rfl rfl (gW rfl (cZ d7 hc12)) (bI _ rfl rfl rfl rfl rfl (dO rfl) (bI _ rfl rfl rfl rfl rfl (C5 rfl rfl (r:= .int .u64 (((xs.getD i 0)*2^(n%64)%18446744073709551616:Nat):Int)) rfl (fun w=>nT (x:=xs.getD i 0) (s:=n%64) (by omega) _ _ w)) (bI _ rfl rfl rfl rfl rfl (C5 rfl rfl (r:= .int .u64 (((l.getD ((n/64)+i) 0)||| ((xs.getD i 0)*2^(n%64)%18446744073709551616):Nat):Int)) rfl (fun w=>rH (x:=l.getD ((n/64)+i) 0) (y:=(xs.getD i 0)*2^(n%64)%18446744073709551616) hlb (by have:=eO (xs.getD i 0*2^(n%64)) (show 0<18446744073709551616 by decide);omega) _ _ w)) (bI _ rfl rfl rfl rfl rfl (gX rfl rfl bU bN ((n/64)+i) rfl ⟨g2,(n/64)+i,none⟩ (dP _ _)) ?_)))))))))))))
    refine D9 _ rfl rfl rfl rfl rfl (y9 rfl rfl hr18) ?_
    exact mZ
   clear hv
   refine mD [(0,.slice A m cap),(6,.int .i64 k1),(7,.int .i64 ((n/64:Nat):Int)),(8,.int .u64 ((n%64:Nat):Int)),(9,.slice (some ⟨g2,0,none⟩) (((n/64)+k1)+1) (((n/64)+k1)+1)),(31,.int .i64 k1),(32,.int .i64 i),(33,.bool true),(34,.int .i64 i),(10,.int .i64 i),(35,.slice (some ⟨g2,0,none⟩) (((n/64)+k1)+1) (((n/64)+k1)+1)),(36,.int .i64 ((n/64:Nat):Int)),(37,.int .i64 i),(38,.int .i64 (((n/64)+i:Nat):Int)),(39,.pointer (some (⟨g2,(n/64)+i,none⟩))),(40,.int .u64 ((l.getD ((n/64)+i) 0:Nat):Int)),(41,.slice A m cap),(42,.int .i64 i),(43,.pointer (some p12)),(44,.int .u64 ((xs.getD i 0:Nat):Int)),(45,.int .u64 ((n%64:Nat):Int)),(46,.int .u64 (((xs.getD i 0)*2^(n%64)%18446744073709551616:Nat):Int)),(47,.int .u64 (((l.getD ((n/64)+i) 0)||| ((xs.getD i 0)*2^(n%64)%18446744073709551616):Nat):Int)),(48,.pointer (some (⟨g2,(n/64)+i,none⟩)))] ⟨rfl,rfl,rfl,rfl,rfl,rfl,rfl,rfl,rfl,rfl,rfl,rfl,rfl,rfl,rfl,rfl,rfl,rfl,rfl,rfl,rfl,rfl,rfl,rfl,trivial⟩ (aD (a7 (mv 3 rfl (aE rfl rfl rfl (((n/64)+i:Nat):Int) (bF (a:=n/64) (b:=i) rfl rfl) (aE rfl rfl rfl ((((n/64)+i)+1:Nat):Int) (bF (a:=(n/64)+i) (b:=1) rfl rfl) (mv 2 rfl ?_))))))
   obtain⟨p19,hp19,hc19,hv19⟩:=((Rd.updL (rl0.ext e11) u16 ne9)).at (i:=i) (by omega)
   refine bT rfl rfl rfl bU bN i rfl p19 hp19 (aS rfl rfl (cZ d7 hc19) (mv 1 rfl (aE rfl rfl rfl ((64-(n%64):Nat):Int) (qW (a:=64) (b:=n%64) rfl rfl) (bS rfl rfl rfl (r:= .int .u64 (((xs.getD i 0)/2^(64-(n%64)):Nat):Int)) rfl (fun w=>l8 (x:=xs.getD i 0) (s:=64-(n%64)) (by omega) _ _ w) (bT rfl rfl rfl bU bN (((n/64)+i)+1) rfl ⟨g2,((n/64)+i)+1,none⟩ (dP _ _) (eB rfl rfl rfl bN rfl hb15 (fK (by rw [(hJ (l:=l) (hI.len))];omega)) rfl (((l.set ((n/64)+i) ((l.getD ((n/64)+i) 0)||| ((xs.getD i 0)*2^(n%64)%18446744073709551616))).set (((n/64)+i)+1) ((xs.getD i 0)/2^(64-(n%64)))).map aW) (eG _ _ _) fun v20 hb22 u23 hs24=>?_))))))
   have hw4:=u23.ext hw3 ge7
   refine aU (cA (aD (a7 (aE rfl rfl rfl ((i+1:Nat):Int) (bF (a:=i) (b:=1) rfl rfl) (mv 1 rfl (aU (cH (⟨v20,i+1,_⟩:a6×Nat×List Nat) ⟨hw4,(by omega),hb22,(hI.step hx.wf hik hkl hs64),(Rd.updL (Rd.updL (rl0.ext e11) u16 ne9) u23 ne9)⟩ (show k1-(i+1)<k1-i by omega) rfl ⟨rfl,rfl,rfl,rfl,rfl,rfl,rfl,trivial⟩)))))))
  · 
   have hie:i=k1:=by omega
   rw [hie] at hI
   have hnv:=hI.done hx.wf hk1 hq
   have hlen:=hI.len
   refine a7 (aB rfl rfl rfl false (cX (a:=i) (b:=k1) rfl rfl) (a0 (aA (aI rfl (cR (cN (cP (cQ (aD (sr (mv 2 rfl (dD rfl rfl (vs:= [.slice (some ⟨g2,0,none⟩) (((n/64)+k1)+1) (((n/64)+k1)+1)]) (by kernel_rfl) (by decide) (k9 ((hb).rd0 hI.wf hI.len (by omega))) ?_))))))))))))
   rintro _ _ ⟨k25,hk25,hnk25,rfl,rfl⟩
   refine dE ?_
   have hk25:=hk25.out
   have hle8:k25≤n/64+k1+1:=by rw [hk25];exact aG (iM hI.wf) (Nat.le_of_eq hI.len)
   refine jT rfl rfl bU bN (lo:=0) (hi:=k25) rfl rfl (by omega) (by omega) (v:= .slice (some ⟨g2,0,none⟩) k25 (((n/64)+k1)+1)) (BN _ _ _) (by decide) (mv 2 rfl (a0 (aM (aL [.slice (some ⟨g2,0,none⟩) k25 (((n/64)+k1)+1),I0] rfl ⟨rfl,rfl,trivial⟩ ?_))))
   have hwd:=nQ hI.wf hk25
   have ho:Own wr b 65 1 (some ⟨g2,0,none⟩) k25 (n/64+k1+1) ((wd (nv l)).map aW):=Own.mk_ (aG hb0 ge7) hb (by omega) (by rw [eY];omega) (by rw [List.length_map,cI];exact hI.len) (by rw [hwd,cI,List.map_take])
   rw [←hnv]
   exact⟨_,rfl,⟨_,_,rfl,⟨_,_,_,rfl,hk25,ho⟩,rfl⟩,hw1⟩
end
section
open Go.RowKit
open Ieee
theorem N4 {w:a6}(hb:b≤w.heap.size){m':Nat}(hx:Wi w A n c m)(hl:n≤274877906944)(hy:Wi w B n' c' m')(hl':n'≤274877906944)(h0:m'≠0):aO aF 199 #[.slice A n c,.slice B n' c'] w (Gv w (T3 (WR b (m/m')) (WR b (m%m')) (Is (.int .i64 0)))):=by
 obtain⟨xs,h1,rfl⟩:=hx
 obtain⟨ys,h2,rfl⟩:=hy
 refine (LU h1 hl h2 hl' h0).mono fun e w' h=>?_
 obtain⟨A,n,cap,B,m,cap',rfl,h3,_,h4,h5,_,h6,h7⟩:=h
 exact⟨_,rfl,⟨_,_,_,rfl,⟨A,n,cap,rfl,h3.out,h4.mono hb⟩,⟨B,m,cap',rfl,h5.out,h6.mono hb⟩,rfl⟩,h7⟩
theorem oC {w:a6}(hx:Wi w A n c m)(hl:n≤1099511627775):aO aF 142 #[.slice A n c] w (Gv w (Is (.int .i64 ((bA m:Nat):Int)))):=by
 obtain⟨xs,h1,rfl⟩:=hx
 refine (CK h1 hl).mono fun e w' h=>?_
 obtain⟨k,h2,rfl,h3⟩:=h
 exact⟨_,rfl,(show bV .i64 (k:Int)=_ by rw [h2.out]),h3⟩
theorem a1u {w:a6}(hb0:b≤w.heap.size)(hx:Wi w A m c M)(hm:m≤1073741824)(hn:n≤1048576):aO aF 181 #[.slice A m c,.int .i64 n] w (Gv w (T2 (WR b (M*2^n)) (Is (.int .i64 0)))):=by
 obtain⟨xs,h1,rfl⟩:=hx
 exact YV hb0 h1 hm hn
def dV (ng:Bool)(b:Nat):Nat:=if ng=true∧b≠0 then b+9223372036854775808 else b
theorem B5 (h:b<9223372036854775808):b^^^9223372036854775808=b+9223372036854775808:=by
 have e:(9223372036854775808:Nat)=2^63:=rfl
 rw [e] at h⊢
 refine Nat.eq_of_testBit_eq fun i=>?_
 rw [Nat.testBit_xor,Nat.testBit_two_pow,Nat.add_comm]
 rcases Nat.lt_trichotomy i 63 with h1 | h1 | h1
 ·rw [Nat.testBit_two_pow_add_gt h1]
  have:decide (63=i)=false:=by simp;omega
  rw [this,Bool.xor_false]
 ·subst h1
  rw [Nat.testBit_two_pow_add_eq,Nat.testBit_lt_two_pow h];rfl
 ·have h2:(2:Nat)^64≤2^i:=dU (by decide) h1
  rw [Nat.testBit_lt_two_pow (dF (show 2^63+b<2^64 by omega) h2),Nat.testBit_lt_two_pow (dF (show b<2^64 by omega) h2)]
  have:decide (63=i)=false:=by simp;omega
  rw [this];rfl
theorem WH (h:b≤9218868437227405312)(h0:b≠0):(FloatKind.f64.format.order b 0 != some .eq)=true:=by
 show (double.order b 0 != some .eq)=true
 by_cases hf:fin b
 ·rw [VH hf]
  unfold fin mg at hf
  unfold mg
  rw [if_neg (by omega)]
  split <;> rfl
 ·have:=VG hf
  unfold bne
  rw [this];rfl
theorem WJ:(FloatKind.f64.format.order 0 0 != some .eq)=false:=by decide
theorem nZ (h:(wd m).length≤n)(hk:k≤4096:=by omega):(wd (m*2^k)).length≤n+65:=by
 refine fY ?_
 have h1:=kS m
 have h2:m<WB^n:=dF h1 (dU gE h)
 have h4:(2:Nat)^k<WB^65:=by
  have e:WB^65=2^(64*65):=by rw [lY,←Nat.pow_mul]
  rw [e]
  generalize hz:64*65=z
  exact Nat.pow_lt_pow_right (by decide) (by omega)
 rw [bX]
 exact Nat.mul_lt_mul'' h2 h4
theorem zS (h:(wd m).length≤n):bA m≤64*n:=by
 refine tS ?_
 have h1:=kS m
 rw [lY,←Nat.pow_mul] at h1
 exact dF h1 (dU (by decide) (eF _ h))
theorem oB (h:k≤9223372036854775807:=by omega):bV .i64 (IntKind.i64.wrap (0- -((k:Nat):Int)))= .int .i64 (k:Int):=by
 rw [IntWalk.i64_in _ ⟨by omega,by omega⟩];congr 1;omega
theorem nS (P:cD)(t:aT)(w:a6)(h:x≤4095:=by omega):(binOp .shl t (.int .u64 (x:Int)) (.int .u64 52)).run P w= .ok (.int .u64 ((x*4503599627370496:Nat):Int)) w:=by
 have e:=nT (x:=x) (s:=52) (by decide) P t w
 have e2:x*2^52%18446744073709551616=x*4503599627370496:=by
  rw [show (2:Nat)^52=4503599627370496 from rfl];omega
 rw [e2] at e;exact e
theorem x9 (hx:x≤18446744073709551615)(hd:d≤63)(P:cD)(t:aT)(w:a6):(binOp .and t (.int .u64 (x:Int)) (.int .u64 ((2^d-1:Nat):Int))).run P w= .ok (.int .u64 ((x%2^d:Nat):Int)) w:=by
 have h1:2^d≤2^63:=dU (by decide) hd
 have e2:(binOp .and t (.int .u64 (x:Int)) (.int .u64 ((2^d-1:Nat):Int))).run P w= .ok (.int .u64 (bits BinOp.and IntKind.u64 (x:Int) ((2^d-1:Nat):Int))) w:=rfl
 rw [e2]
 have e3:bits BinOp.and IntKind.u64 (x:Int) ((2^d-1:Nat):Int)=((x&&& (2^d-1):Nat):Int):=by
  have e:IntKind.u64.wrap ((nL 64 (x:Int)&&& nL 64 ((2^d-1:Nat):Int)).toNat:Int)=((x&&& (2^d-1):Nat):Int):=by
   rw [BitVec.toNat_and,nV hx,nV (by omega),nN,fG (iH Nat.and_le_left (by omega))]
  exact e
 rw [e3,Nat.and_two_pow_sub_one_eq_mod]
theorem x8 {s:Nat}(P:cD)(t:aT)(w:a6)(hs:s≤63:=by omega):(binOp .shl t (.int .u64 1) (.int .u64 (s:Int))).run P w= .ok (.int .u64 ((2^s:Nat):Int)) w:=by
 have e:=nT (x:=1) (s:=s) (by omega) P t w
 have h1:2^s≤2^63:=dU (by decide) hs
 rw [Nat.one_mul,fG (by omega)] at e;exact e
theorem F8 {Q:Exit→Act→a6→Prop}{l:Fr}{w:a6}{x y:cS}{k:IntKind}{b:Int}(hw:dI ops l gd=some true)(hx:bZ l x=some (.int k a))(hy:bZ l y=some (.int k b))(c:Int)(hc:max a b=c)(hn:d<n)(h:wl P ops Q n rest ((d,.int k c)::l) w):wl P ops Q n (⟨some d,.call {callee:= .builtin .max,args:= #[x,y],argTypes:=ts},ty,pos,af,gd⟩::rest) l w:=by
 refine fJ hw hn (fun a' ha=>?_) h
 have e:(if b>a then b else a)=c:=by rw [←hc];split <;> omega
 unfold execOp
 simp only [resolve,invoke,builtin,cK,gN,f8,pT,iN,j7,ha.ev hx,ha.ev hy,Builtin.max_,List.foldlM,Builtin.max2,e]
theorem nO {Q:Exit→Act→a6→Prop}{l:Fr}{w:a6}{x y:cS}{k:IntKind}{b:Int}(hw:dI ops l gd=some true)(hx:bZ l x=some (.int k a))(hy:bZ l y=some (.int k b))(c:Int)(hc:min a b=c)(h:wl P ops Q n rest ((d,.int k c)::l) w)(hn:d<n:=by decide):wl P ops Q n (⟨some d,.call {callee:= .builtin .min,args:= #[x,y],argTypes:=ts},ty,pos,af,gd⟩::rest) l w:=by
 refine fJ hw hn (fun a' ha=>?_) h
 have e:(if b<a then b else a)=c:=by rw [←hc];split <;> omega
 unfold execOp
 simp only [resolve,invoke,builtin,cK,gN,f8,pT,iN,j7,ha.ev hx,ha.ev hy,Builtin.min_,List.foldlM,Builtin.min2,e]
theorem yF {w:a6}(h:Own w b 65 1 A n c ((wd q).map aW))(hn:n=(wd q).length)(h1:(wd q).length=1):∃p,A.map (·.add (0*1))=some p∧w.cell? p=some (.int .u64 q):=by
 obtain⟨p,hp,hc,_⟩:=(h.rd (pN _)).at (i:=0) (by omega)
 refine⟨p,hp,?_⟩
 have e:(wd q).getD 0 0=q:=by
  have h2:=gH q
  rcases hw:wd q with _ | ⟨x,r⟩
  ·rw [hw] at h1;simp at h1
  ·rw [hw] at h1 h2
   have:r= []:=pU.1 (by simpa using h1)
   subst this
   rw [←h2];simp [nv]
 rw [e] at hc;exact hc
theorem yO (h0:q≠0)(h:q≤18446744073709551615:=by omega):(wd q).length=1:=by
 have h1:(wd q).length≤1:=fY (by rw [cF,Nat.pow_one];omega)
 have h2:(wd q).length≠0:=fun e=>h0 (jN.1 e)
 omega
theorem KF (h:bA q=55∨bA q=56):q<72057594037927936:=by
 have h1:(2:Nat)^bA q≤2^56:=dU (by decide) (by omega)
 exact dF (jV q) h1
theorem nY (a b:Nat):min (a:Int) (b:Int)=((min a b:Nat):Int):=by omega
theorem JN {z:Nat}(h:k+p=z+d):X*2^k*2^p*D=X*2^z*(D*2^d):=by
 have e:(2:Nat)^k*2^p=2^z*2^d:=by rw [←bX,←bX,h]
 rw [bH X,e,bY D,←bH X,bH (X*2^z)]
theorem JS {z:Nat}(h:p=z+k+d):X*2^p*D=X*2^z*(D*2^k*2^d):=by
 rw [h,bX,bX,bH D,←bH X,←bH X,bH (X*2^z),bH (X*2^z),bY (2^k*2^d) D]
theorem JO (h:bA q≤d+53)(h2:2≤d):q/2^d<9007199254740992:=by
 refine (k0 (dW d)).2 (dF (jV q) ?_)
 rw [show (9007199254740992:Nat)=2^53 from rfl,←bX]
 exact dU (by decide) (by omega)
theorem yJ {z:Nat}(hD:0<D):cU (0*2^z) D=0:=by
 unfold cU
 rw [iZ,CG hD (by omega)]
 rfl
theorem JP (hX:X≠0)(hD:0<D)(h:((bA X:Nat):Int)-((bA D:Nat):Int)< -1080):cU (X*2^bM) D=0:=by
 have h1:=jV X
 have h2:=lH (n:=D) (by omega)
 have h3:X*2^bM*2<D:=by
  refine dF ?_ h2
  have e:X*2^bM*2=X*2^(bM+1):=by rw [bH,←cB]
  rw [e]
  refine dF ((Nat.mul_lt_mul_right (dW (bM+1))).2 h1) ?_
  rw [←bX]
  have h74:=i6
  exact dU (by decide) (by omega)
 unfold cU
 rw [CG hD (by omega)]
 rfl
theorem JQ (hX:X≠0)(hD:0<D)(h:1025<((bA X:Nat):Int)-((bA D:Nat):Int)):cU (X*2^bM) D=9218868437227405312:=by
 have h1:=lH hX
 have h2:=jV D
 have h3:D*(2^fN*2)≤X*2^bM:=by
  have e1:D*(2^fN*2)≤2^(bA D+1025)*2^bM:=by
   have e0:fN.succ=1025+bM:=by rw [zF,i6]
   rw [←cB,e0,←bX,j0,bX 2 (bA D)]
   exact eA _ (Nat.le_of_lt h2)
  refine aG e1 (eA _ (aG ?_ h1))
  exact dU (by decide) (by omega)
 have:=W8 hD h3
 unfold cU
 omega
theorem JR (hD:0<D)(hE:0<E)(hcr:N*2^p*D=X*(E*2^d))(hp:p=0)(hq:N/E=q)(hq56:q<72057594037927936)(hd:60<d):cU X D=0:=by
 subst hp
 rw [Nat.pow_zero,cI] at hcr
 have hN:N<E*72057594037927936:=by rw [bY];exact (k0 hE).1 (by rw [hq];exact hq56)
 have h61:(2:Nat)^61≤2^d:=dU (by decide) hd
 have h1:2*X<D:=by
  refine Nat.lt_of_mul_lt_mul_left (a:=E*2^d) ?_
  have e1:E*2^d*(2*X)=2*(N*D):=by rw [hcr,Nat.mul_left_comm,bY X]
  rw [e1]
  have e2:N*D<E*72057594037927936*D:=(Nat.mul_lt_mul_right hD).2 hN
  have e3:E*72057594037927936*D*32=E*2^61*D:=by rw [show (2:Nat)^61=72057594037927936*32 from rfl,←bH E,kH]
  have e4:E*2^61*D≤E*2^d*D:=eA _ (eF _ h61)
  omega
 unfold cU
 rw [CG hD h1]
 rfl
set_option maxHeartbeats 4000000 in
theorem rW {w:a6}(hb:b≤w.heap.size)(hk:k≤4096)(hX:Wi w A n c X)(hXn:n≤67108864):
    aO aF 117 #[.slice A n c,.int .i64 k] w (Gv w (WR b (X*2^k))):=by
 refine bK Tryz.func117 rfl (n:=14) rfl (bq rfl) (args:= [.slice A n c,.int .i64 k]) (bE [(0,.slice A n c),(1,.int .i64 k)] ⟨rfl,rfl,trivial⟩ (sr (mv 1 rfl (a0 (sr (mv 2 rfl (cl (vs:= [.slice A n c,.int .i64 k]) (Ext.refl w) (a1u (b:=b) (aG hb (Ext.refl w).size) hX (bQ hXn rfl) (by omega)) rfl (by kernel_rfl) fun xr3 v1 r3 e2 hw1=>?_)))))))
 obtain⟨_,_,rfl,⟨A5,n5,c5,rfl,j5,o5⟩,rfl⟩:=r3
 refine mv 1 rfl (pu (v:= .slice A5 n5 c5) rfl (pu (v:= .int .i64 0) rfl (mv 2 rfl (a0 (sr (mv 2 rfl (a0 (aM (aL [.slice A5 n5 c5] rfl ⟨rfl,trivial⟩ ?_)))))))))
 exact⟨_,rfl,⟨_,_,_,rfl,j5,o5⟩,hw1⟩
set_option maxHeartbeats 4000000 in
theorem rV {w:a6}(hx:x≤9218868437227405312):
    aO aF 165 #[.bool ng,.float .f64 x] w (Gv w (Is (.float .f64 (dV ng x)))):=by
 refine bK Tryz.func165 rfl (n:=13) rfl (bq rfl) (args:= [.bool ng,.float .f64 x]) (bE [(0,.bool ng),(1,.float .f64 x)] ⟨rfl,rfl,trivial⟩ (sr (mv 1 rfl (a0 (aA (aA ?_))))))
 cases ng
 · 
  refine a7 (mv 4 rfl (pu (v:= .bool false) rfl (a0 (aI rfl (aN (aD (sr (mv 2 rfl (a0 (aM (aL [.float .f64 x] rfl ⟨rfl,trivial⟩ ?_)))))))))))
  exact⟨_,rfl,(show Value.float .f64 x=_ by unfold dV;rw [if_neg (by simp)]),(Ext.refl w)⟩
 · 
  by_cases h0:x=0
  · 
   subst h0
   refine a7 (mv 3 rfl (bD rfl rfl (v:= .bool (FloatKind.f64.format.order 0 0 != some .eq)) (v':= .bool false) (congrArg Value.bool WJ) (pu (v:= .bool false) rfl (a0 (aI rfl (aN (aD (sr (mv 2 rfl (a0 (aM (aL [.float .f64 0] rfl ⟨rfl,trivial⟩ ?_))))))))))))
   exact⟨_,rfl,(show Value.float .f64 0=_ by unfold dV;rw [if_neg (by simp)]),(Ext.refl w)⟩
  · 
   refine a7 (mv 3 rfl (bD rfl rfl (v:= .bool (FloatKind.f64.format.order x 0 != some .eq)) (v':= .bool true) (congrArg Value.bool (WH hx h0)) (pu (v:= .bool true) rfl (a0 (aP rfl (sr (mv 1 rfl (pu (v:= .float .f64 (x^^^9223372036854775808)) rfl (mv 1 rfl (a0 (aM (bL (aL [.float .f64 (x^^^9223372036854775808)] rfl ⟨rfl,trivial⟩ ?_)))))))))))))
   exact⟨_,rfl,(show Value.float .f64 (x^^^9223372036854775808)=_ by unfold dV;rw [if_pos ⟨rfl,h0⟩,B5 (by omega)]),(Ext.refl w)⟩
set_option maxHeartbeats 8000000 in
theorem yZ {w:a6}(hX:Wi w A n c X)(hXn:n≤67108864)(hD:Wi w B n' c' D)(hDn:n'≤67108864)(hD0:0<D):
    aO aF 166 #[.slice A n c,.slice B n' c'] w (Gv w (Is (.float .f64 (cU (X*2^bM) D)))):=by
 refine bK Tryz.func166 rfl (n:=109) rfl (bq rfl) (args:= [.slice A n c,.slice B n' c']) (bE [(0,.slice A n c),(1,.slice B n' c')] ⟨rfl,rfl,trivial⟩ (sr (mv 1 rfl (a0 (aA ?_)))))
 have hXl:=hX.len
 have hDl:=hD.len
 have hXl:(wd X).length≤67108864:=aG hXl hXn
 have hDl:(wd D).length≤67108864:=aG hDl hDn
 have hbX:=zS hXl
 have hbD:=zS hDl
 have hDb:bA D≠0:=fun e=>by have:=kD.1 e;omega
 refine a7 (mv 1 rfl (cl (vs:= [.slice A n c]) (Ext.refl w) (oC hX (bQ hXn rfl)) rfl (by kernel_rfl) fun xr3 v1 r3 e2 hw1=>?_))
 obtain rfl:=r3
 refine mv 1 rfl (cl (vs:= [.slice B n' c']) hw1 (oC (hD.ext hw1) (bQ hDn rfl)) rfl (by kernel_rfl) fun xr6 v4 r6 e5 hw2=>?_)
 obtain rfl:=r6
 refine aE rfl rfl rfl (((bA X:Nat):Int)-((bA D:Nat):Int)) (dM rfl) (mv 1 rfl (a0 (aA (bG (aA ?_)))))
 by_cases hX0:X=0
 · 
  subst hX0
  refine a7 (mv 1 rfl (cl (vs:= [.slice A n c]) hw2 (oC (hX.ext hw2) (bQ hXn rfl)) rfl (by kernel_rfl) fun xr9 v7 r9 e8 hw3=>?_))
  obtain rfl:=r9
  refine aB rfl rfl rfl true (gD (by rw [kV];rfl)) (mv 3 rfl (pu (v:= .bool true) rfl (mv 1 rfl (a0 (aP rfl (sr (mv 1 rfl (a0 (aM (eC (bL (aL [.float .f64 0] rfl ⟨rfl,trivial⟩ ?_))))))))))))
  exact⟨_,rfl,(show Value.float .f64 0=_ by rw [yJ hD0]),hw3⟩
 · 
  have hXb:bA X≠0:=fun e=>hX0 (kD.1 e)
  by_cases hlo:((bA X:Nat):Int)-((bA D:Nat):Int)< -1080
  · 
   refine a7 (mv 1 rfl (cl (vs:= [.slice A n c]) hw2 (oC (hX.ext hw2) (bQ hXn rfl)) rfl (by kernel_rfl) fun xr12 v10 r12 e11 hw3=>?_))
   obtain rfl:=r12
   refine aB rfl rfl rfl false (dC (a:=bA X) (b:=0) rfl rfl) (mv 2 rfl (aB rfl rfl rfl true (pB hlo) (pu (v:= .bool true) rfl (mv 1 rfl (a0 (aP rfl (sr (mv 1 rfl (a0 (aM (eC (bL (aL [.float .f64 0] rfl ⟨rfl,trivial⟩ ?_)))))))))))))
   exact⟨_,rfl,(show Value.float .f64 0=_ by rw [JP hX0 hD0 (by omega)]),hw3⟩
  · 
   by_cases hhi:1025<((bA X:Nat):Int)-((bA D:Nat):Int)
   · 
    refine a7 (mv 1 rfl (cl (vs:= [.slice A n c]) hw2 (oC (hX.ext hw2) (bQ hXn rfl)) rfl (by kernel_rfl) fun xr15 v13 r15 e14 hw3=>?_))
    obtain rfl:=r15
    refine aB rfl rfl rfl false (dC (a:=bA X) (b:=0) rfl rfl) (mv 2 rfl (aB rfl rfl rfl false (mB) (pu (v:= .bool false) rfl (mv 1 rfl (a0 (aI rfl (sr (mv 1 rfl (aB rfl rfl rfl true (qS hhi) (mv 1 rfl (a0 (aP rfl (aA ?_)))))))))))))
    refine a7 (pu (v:= .float .f64 9218868437227405312) rfl (mv 1 rfl (a0 (aM (eC (bL (aL [.float .f64 9218868437227405312] rfl ⟨rfl,trivial⟩ ?_)))))))
    exact⟨_,rfl,(show Value.float .f64 9218868437227405312=_ by rw [JQ hX0 hD0 (by omega)]),hw3⟩
   · 
    refine a7 (mv 1 rfl (cl (vs:= [.slice A n c]) hw2 (oC (hX.ext hw2) (bQ hXn rfl)) rfl (by kernel_rfl) fun xr18 v16 r18 e17 hw3=>?_))
    obtain rfl:=r18
    refine aB rfl rfl rfl false (dC (a:=bA X) (b:=0) rfl rfl) (mv 2 rfl (aB rfl rfl rfl false (mB) (pu (v:= .bool false) rfl (mv 1 rfl (a0 (aI rfl (sr (mv 1 rfl (aB rfl rfl rfl false (pF) (mv 1 rfl (a0 (aI rfl (aN ?_)))))))))))))
    refine cA (aD (aA ?_))
    by_cases hes:((bA X:Nat):Int)-((bA D:Nat):Int)≤55
    · 
     obtain⟨k,hk⟩:∃k:Nat,55-(((bA X:Nat):Int)-((bA D:Nat):Int))=(k:Int):=⟨(55-(((bA X:Nat):Int)-((bA D:Nat):Int))).toNat,by omega⟩
     refine a7 (mv 1 rfl (aE rfl rfl rfl ((k:Nat):Int) (dM hk) (mv 1 rfl (a0 (aA (sr (mv 1 rfl (aB rfl rfl rfl true (eI (a:=k) (b:=0) rfl rfl) (a0 (aP rfl (a7 (mv 2 rfl (cl (vs:= [.slice A n c,.int .i64 k]) hw3 (rW (b:=w.heap.size) hw3.size (by omega) (hX.ext hw3) (bQ hXn rfl)) rfl (by kernel_rfl) fun xr21 v19 r21 e20 hw4=>?_)))))))))))))
     obtain⟨A22,n22,c22,rfl,j22,o22⟩:=r21
     refine mv 1 rfl (a0 (aA ?_))
     have hbl:bA (X*2^k)=bA D+55:=by rw [zR hX0];omega
     have hE0:D≠0:=by omega
     refine a7 (mv 2 rfl (cl (vs:= [.slice A22 n22 c22,.slice B n' c']) hw4 (N4 hw4.size o22.wi (by rw [j22];exact aG (nZ (n:=67108864) hXl) (by decide)) (hD.ext hw4) (bQ hDn rfl) hE0) rfl (by kernel_rfl) fun xr25 v23 r25 iE hw5=>?_))
     obtain⟨_,_,_,rfl,⟨A27,n27,c27,rfl,j27,o27⟩,⟨A28,n28,c28,rfl,j28,o28⟩,rfl⟩:=r25
     refine mv 1 rfl (pu (v:= .slice A27 n27 c27) rfl (pu (v:= .slice A28 n28 c28) rfl (pu (v:= .int .i64 0) rfl (mv 3 rfl (a0 (aA ?_))))))
     have hqb:=MY (Nat.pos_of_ne_zero hE0) hbl
     obtain⟨q,hq⟩:∃q,(X*2^k)/D=q:=⟨_,rfl⟩
     obtain⟨r,hr⟩:∃r,(X*2^k)%D=r:=⟨_,rfl⟩
     rw [hq] at hqb j27 o27
     rw [hr] at j28 o28
     replace hq:=Lib.hid hq
     replace hr:=Lib.hid hr
     have hq0:q≠0:=fun e=>by rw [e,kV] at hqb;omega
     have hq56:q<72057594037927936:=KF hqb
     have hq1:=yO hq0
     refine a7 (mv 1 rfl ?_)
     obtain⟨p29,hp29,hc29⟩:=yF o27 j27 hq1
     refine bT rfl rfl rfl bU bN 0 rfl p29 hp29 (aS rfl rfl (cZ d7 hc29) (mv 1 rfl (a0 (aA ?_)))) (hj:=(by rw [j27,hq1];decide))
     obtain⟨d,hd⟩:∃d:Nat,max (((bA q:Nat):Int)-((k:Nat):Int)-53) (-1074)=(d:Int)-((k:Nat):Int):=⟨(max (((bA q:Nat):Int)-((k:Nat):Int)-53) (-1074)+((k:Nat):Int)).toNat,by omega⟩
     have hd2:2≤d:=by omega
     have hdb:bA q≤d+53:=by omega
     obtain⟨p,hp⟩:∃p:Nat,(d:Int)-((k:Nat):Int)- -1074=(p:Int):=⟨((d:Int)-((k:Nat):Int)+1074).toNat,by omega⟩
     have hpz:p=0∨bA q=d+53:=by omega
     have hpu:p≤2048:=by omega
     refine a7 (mv 1 rfl (cl (vs:= [.slice A27 n27 c27]) hw5 (oC o27.wi (by rw [j27];exact aG (Nat.le_of_eq hq1) (by decide))) rfl (by kernel_rfl) fun xr32 v30 r32 e31 hw6=>?_))
     obtain rfl:=r32
     refine mv 1 rfl (aE rfl rfl rfl (((bA q:Nat):Int)-((k:Nat):Int)) (dM rfl) (aE rfl rfl rfl ((((bA q:Nat):Int)-((k:Nat):Int))-53) (dM rfl) (F8 rfl rfl rfl ((d:Int)-((k:Nat):Int)) hd (by decide) (mv 1 rfl (a0 (sr (mv 2 rfl (aE rfl rfl rfl ((d:Nat):Int) (lJ) (mv 1 rfl (a0 (aA (aA ?_))))))))))))
     by_cases hd60:60<d
     · 
      refine a7 (mv 1 rfl (aB rfl rfl rfl true (dJ (a:=d) (b:=60) rfl rfl) (a0 (aP rfl (sr (mv 1 rfl (a0 (aM (bL (aL [.float .f64 0] rfl ⟨rfl,trivial⟩ ?_))))))))))
      exact⟨_,rfl,(show Value.float .f64 0=_ by rw [JR (X:=X*2^bM) (N:=X*2^k) (E:=D) (d:=d) (p:=p) hD0 (Nat.pos_of_ne_zero hE0) (JN (by have:=i6;omega)) (show p=0 by omega) hq.out hq56 (by omega)]),hw6⟩
     · 
      refine a7 (mv 1 rfl (aB rfl rfl rfl false (d6 (a:=d) (b:=60) rfl rfl) (a0 (aI rfl (aN (aD (aA ?_)))))))
      have hcode:=JT (X:=X*2^bM) (D:=D) (N:=X*2^k) (E:=D) (d:=d) (p:=p) hD0 (Nat.pos_of_ne_zero hE0) (by omega) (JN (by have:=i6;omega)) (by rw [hq.out];exact hdb) (by rw [hq.out];exact hpz)
      rw [hq.out,hr.out] at hcode
      replace hcode:=Lib.hid hcode
      have hm53:=JO hdb (by omega)
      have h2d:1≤2^d:=dW d
      have h2d60:2^d≤2^60:=dU (by decide) (by omega)
      have hc64:q%2^d≤q:=Nat.mod_le _ _
      have hd163:d-1≤63:=by omega
      have h2d1:2^(d-1)≤2^d:=dU (by decide) (by omega)
      refine a7 (mv 2 rfl (bD rfl rfl (v:= .int .u64 (IntKind.u64.wrap ((d:Nat):Int))) (v':= .int .u64 d) (eD (by first | omega | exact (by omega))) (bS rfl rfl rfl (r:= .int .u64 ((q/2^d:Nat):Int)) rfl (fun w=>l8 (x:=q) (s:=d) (by omega) _ _ w) (mv 2 rfl (bD rfl rfl (v:= .int .u64 (IntKind.u64.wrap ((d:Nat):Int))) (v':= .int .u64 d) (eD (by first | omega | exact (by omega))) (bS rfl rfl rfl (r:= .int .u64 ((2^d:Nat):Int)) rfl (fun w=>x8 (s:=d) _ _ w) (aE rfl rfl rfl (((2^d)-1:Nat):Int) (qW (a:=2^d) (b:=1) rfl rfl) (bS rfl rfl rfl (r:= .int .u64 ((q%2^d:Nat):Int)) rfl (fun w=>x9 (x:=q) (d:=d) (by omega) (by omega) _ _ w) (mv 2 rfl (a0 (sr (mv 1 rfl (aE rfl rfl rfl ((d-1:Nat):Int) (eR (a:=d) (b:=1) rfl rfl) ?_)))))))))))))
      refine bD rfl rfl (v:= .int .u64 (IntKind.u64.wrap ((d-1:Nat):Int))) (v':= .int .u64 ((d-1:Nat):Int)) (eD (by first | omega | exact (by omega))) (bS rfl rfl rfl (r:= .int .u64 ((2^(d-1):Nat):Int)) rfl (fun w=>x8 (s:=d-1) _ _ w) (mv 1 rfl (a0 (aA (aA ?_)))))
      by_cases hab:2^(d-1)<q%2^d
      · 
       refine a7 (mv 2 rfl (aB rfl rfl rfl true (dJ (a:=q%2^d) (b:=2^(d-1)) rfl rfl) (mv 14 rfl (pu (v:= .bool true) rfl (a0 (aP rfl (a7 (mv 1 rfl (aE rfl rfl rfl (((q/2^d)+1:Nat):Int) (eW (a:=q/2^d) (b:=1) rfl rfl) (mv 1 rfl (a0 (sr (mv 1 rfl ?_)))))))))))))
       refine aE rfl rfl rfl ((p:Nat):Int) (dM hp) (bD rfl rfl (v:= .int .u64 (IntKind.u64.wrap ((p:Nat):Int))) (v':= .int .u64 p) (eD (by first | omega | exact (by omega))) (bS rfl rfl rfl (r:= .int .u64 ((p*4503599627370496:Nat):Int)) rfl (fun w=>nS (x:=p) _ _ w) (mv 1 rfl (aE rfl rfl rfl (((p*4503599627370496)+((q/2^d)+1):Nat):Int) (eW (a:=p*4503599627370496) (b:=(q/2^d)+1) rfl rfl) (mv 1 rfl (a0 (sr (mv 1 rfl ?_))))))))
       obtain⟨m64,hm64⟩:∃m,min ((p*4503599627370496)+((q/2^d)+1)) 9218868437227405312=m:=⟨_,rfl⟩
       replace hm64:=Lib.hid hm64
       refine nO rfl rfl rfl (((m64:Nat):Int)) ((nY ((p*4503599627370496)+((q/2^d)+1)) 9218868437227405312).trans (by rw [hm64.out])) (pu (v:= .float .f64 m64) rfl (mv 1 rfl (a0 (aM (aL [.float .f64 m64] rfl ⟨rfl,trivial⟩ ?_)))))
       replace hcode:=hcode.out
       rw [if_pos (cE hab)] at hcode
       exact⟨_,rfl,(show Value.float .f64 m64=_ by unfold cU;rw [hcode,hm64.out]),hw6⟩
      · 
       by_cases heq:q%2^d=2^(d-1)
       · 
        by_cases hr0:r≠0
        · 
         have hln:n28≠0:=by rw [j28];exact fun e=>hr0 (jN.1 e)
         refine a7 (mv 2 rfl (aB rfl rfl rfl false (d6 (a:=q%2^d) (b:=2^(d-1)) rfl rfl) (mv 3 rfl (aB rfl rfl rfl true (dA (a:=q%2^d) (b:=2^(d-1)) rfl rfl) (mv 2 rfl (pu (v:= .int .i64 n28) rfl (aB rfl rfl rfl true (dJ (a:=n28) (b:=0) rfl rfl) (mv 4 rfl (pu (v:= .bool true) rfl (pu (v:= .bool true) rfl (pu (v:= .bool true) rfl (a0 (aP rfl ?_)))))))))))))
         refine a7 (mv 1 rfl (aE rfl rfl rfl (((q/2^d)+1:Nat):Int) (eW (a:=q/2^d) (b:=1) rfl rfl) (mv 1 rfl (a0 (sr (mv 1 rfl (aE rfl rfl rfl ((p:Nat):Int) (dM hp) (bD rfl rfl (v:= .int .u64 (IntKind.u64.wrap ((p:Nat):Int))) (v':= .int .u64 p) (eD (by first | omega | exact (by omega))) (bS rfl rfl rfl (r:= .int .u64 ((p*4503599627370496:Nat):Int)) rfl (fun w=>nS (x:=p) _ _ w) (mv 1 rfl (aE rfl rfl rfl (((p*4503599627370496)+((q/2^d)+1):Nat):Int) (eW (a:=p*4503599627370496) (b:=(q/2^d)+1) rfl rfl) (mv 1 rfl (aU ?_)))))))))))))
         refine aD (sr (mv 1 rfl ?_))
         obtain⟨m64,hm64⟩:∃m,min ((p*4503599627370496)+((q/2^d)+1)) 9218868437227405312=m:=⟨_,rfl⟩
         replace hm64:=Lib.hid hm64
         refine nO rfl rfl rfl (((m64:Nat):Int)) ((nY ((p*4503599627370496)+((q/2^d)+1)) 9218868437227405312).trans (by rw [hm64.out])) (pu (v:= .float .f64 m64) rfl (mv 1 rfl (a0 (aM (aL [.float .f64 m64] rfl ⟨rfl,trivial⟩ ?_)))))
         replace hcode:=hcode.out
         rw [if_pos (bR ⟨heq,cE hr0⟩)] at hcode
         exact⟨_,rfl,(show Value.float .f64 m64=_ by unfold cU;rw [hcode,hm64.out]),hw6⟩
        · 
         have hln:n28=0:=by rw [j28];exact jN.2 (by omega)
         by_cases hod:q/2^d%2=1
         · 
          refine a7 (mv 2 rfl (aB rfl rfl rfl false (d6 (a:=q%2^d) (b:=2^(d-1)) rfl rfl) (mv 3 rfl (aB rfl rfl rfl true (dA (a:=q%2^d) (b:=2^(d-1)) rfl rfl) (mv 2 rfl (pu (v:= .int .i64 n28) rfl (aB rfl rfl rfl false (d6 (a:=n28) (b:=0) rfl rfl) (mv 2 rfl (bS rfl rfl rfl (r:= .int .u64 (((q/2^d)%2:Nat):Int)) rfl (fun w=>sS (x:=q/2^d) (by first | omega | exact (by omega)) _ _ w) (aB rfl rfl rfl true (dA (a:=(q/2^d)%2) (b:=1) rfl rfl) (pu (v:= .bool true) rfl (pu (v:= .bool true) rfl (pu (v:= .bool true) rfl ?_)))))))))))))
          refine a0 (aP rfl (a7 (mv 1 rfl (aE rfl rfl rfl (((q/2^d)+1:Nat):Int) (eW (a:=q/2^d) (b:=1) rfl rfl) (mv 1 rfl (a0 (sr (mv 1 rfl (aE rfl rfl rfl ((p:Nat):Int) (dM hp) (bD rfl rfl (v:= .int .u64 (IntKind.u64.wrap ((p:Nat):Int))) (v':= .int .u64 p) (eD (by first | omega | exact (by omega))) (bS rfl rfl rfl (r:= .int .u64 ((p*4503599627370496:Nat):Int)) rfl (fun w=>nS (x:=p) _ _ w) (mv 1 rfl (aE rfl rfl rfl (((p*4503599627370496)+((q/2^d)+1):Nat):Int) (eW (a:=p*4503599627370496) (b:=(q/2^d)+1) rfl rfl) ?_)))))))))))))
          refine mv 1 rfl (a0 (sr (mv 1 rfl ?_)))
          obtain⟨m64,hm64⟩:∃m,min ((p*4503599627370496)+((q/2^d)+1)) 9218868437227405312=m:=⟨_,rfl⟩
          replace hm64:=Lib.hid hm64
          refine nO rfl rfl rfl (((m64:Nat):Int)) ((nY ((p*4503599627370496)+((q/2^d)+1)) 9218868437227405312).trans (by rw [hm64.out])) (pu (v:= .float .f64 m64) rfl (mv 1 rfl (a0 (aM (aL [.float .f64 m64] rfl ⟨rfl,trivial⟩ ?_)))))
          replace hcode:=hcode.out
          rw [if_pos (bR ⟨heq,bR hod⟩)] at hcode
          exact⟨_,rfl,(show Value.float .f64 m64=_ by unfold cU;rw [hcode,hm64.out]),hw6⟩
         · 
          refine a7 (mv 2 rfl (aB rfl rfl rfl false (d6 (a:=q%2^d) (b:=2^(d-1)) rfl rfl) (mv 3 rfl (aB rfl rfl rfl true (dA (a:=q%2^d) (b:=2^(d-1)) rfl rfl) (mv 2 rfl (pu (v:= .int .i64 n28) rfl (aB rfl rfl rfl false (d6 (a:=n28) (b:=0) rfl rfl) (mv 2 rfl (bS rfl rfl rfl (r:= .int .u64 (((q/2^d)%2:Nat):Int)) rfl (fun w=>sS (x:=q/2^d) (by first | omega | exact (by omega)) _ _ w) (aB rfl rfl rfl false (dC (a:=(q/2^d)%2) (b:=1) rfl rfl) (pu (v:= .bool false) rfl (pu (v:= .bool false) rfl (pu (v:= .bool false) rfl ?_)))))))))))))
          refine a0 (aI rfl (aN (aD (sr (mv 1 rfl (aE rfl rfl rfl ((p:Nat):Int) (dM hp) (bD rfl rfl (v:= .int .u64 (IntKind.u64.wrap ((p:Nat):Int))) (v':= .int .u64 p) (eD (by first | omega | exact (by omega))) (bS rfl rfl rfl (r:= .int .u64 ((p*4503599627370496:Nat):Int)) rfl (fun w=>nS (x:=p) _ _ w) (mv 1 rfl (aE rfl rfl rfl (((p*4503599627370496)+(q/2^d):Nat):Int) (eW (a:=p*4503599627370496) (b:=q/2^d) rfl rfl) (mv 1 rfl (a0 (aA ?_)))))))))))))
          refine a7 (mv 1 rfl ?_)
          obtain⟨m64,hm64⟩:∃m,min ((p*4503599627370496)+(q/2^d)) 9218868437227405312=m:=⟨_,rfl⟩
          replace hm64:=Lib.hid hm64
          refine nO rfl rfl rfl (((m64:Nat):Int)) ((nY ((p*4503599627370496)+(q/2^d)) 9218868437227405312).trans (by rw [hm64.out])) (pu (v:= .float .f64 m64) rfl (mv 1 rfl (a0 (aM (aL [.float .f64 m64] rfl ⟨rfl,trivial⟩ ?_)))))
          replace hcode:=hcode.out
          rw [if_neg (by omega)] at hcode
          exact⟨_,rfl,(show Value.float .f64 m64=_ by unfold cU;rw [hcode,hm64.out]),hw6⟩
       · 
        refine a7 (mv 2 rfl (aB rfl rfl rfl false (d6 (a:=q%2^d) (b:=2^(d-1)) rfl rfl) (mv 3 rfl (aB rfl rfl rfl false (dC (a:=q%2^d) (b:=2^(d-1)) rfl rfl) (mv 9 rfl (pu (v:= .bool false) rfl (pu (v:= .bool false) rfl (a0 (aI rfl (aN (aD (sr (mv 1 rfl ?_)))))))))))))
        refine aE rfl rfl rfl ((p:Nat):Int) (dM hp) (bD rfl rfl (v:= .int .u64 (IntKind.u64.wrap ((p:Nat):Int))) (v':= .int .u64 p) (eD (by first | omega | exact (by omega))) (bS rfl rfl rfl (r:= .int .u64 ((p*4503599627370496:Nat):Int)) rfl (fun w=>nS (x:=p) _ _ w) (mv 1 rfl (aE rfl rfl rfl (((p*4503599627370496)+(q/2^d):Nat):Int) (eW (a:=p*4503599627370496) (b:=q/2^d) rfl rfl) (mv 1 rfl (a0 (sr (mv 1 rfl ?_))))))))
        obtain⟨m64,hm64⟩:∃m,min ((p*4503599627370496)+(q/2^d)) 9218868437227405312=m:=⟨_,rfl⟩
        replace hm64:=Lib.hid hm64
        refine nO rfl rfl rfl (((m64:Nat):Int)) ((nY ((p*4503599627370496)+(q/2^d)) 9218868437227405312).trans (by rw [hm64.out])) (pu (v:= .float .f64 m64) rfl (mv 1 rfl (a0 (aM (aL [.float .f64 m64] rfl ⟨rfl,trivial⟩ ?_)))))
        replace hcode:=hcode.out
        rw [if_neg (by omega)] at hcode
        exact⟨_,rfl,(show Value.float .f64 m64=_ by unfold cU;rw [hcode,hm64.out]),hw6⟩
    · 
     obtain⟨k,hk⟩:∃k:Nat,55-(((bA X:Nat):Int)-((bA D:Nat):Int))= -(k:Int):=⟨(-(55-(((bA X:Nat):Int)-((bA D:Nat):Int)))).toNat,by omega⟩
     refine a7 (mv 1 rfl (aE rfl rfl rfl (-((k:Nat):Int)) (dM hk) (mv 1 rfl (a0 (aA (sr (mv 1 rfl (aB rfl rfl rfl false (jG) (a0 (aI rfl (a7 (mv 2 rfl (bD rfl rfl (v:= .int .i64 (IntKind.i64.wrap (0- -((k:Nat):Int)))) (v':= .int .i64 k) (oB) ?_)))))))))))))
     refine cl (vs:= [.slice B n' c',.int .i64 k]) hw3 (rW (b:=w.heap.size) hw3.size (by omega) (hD.ext hw3) (bQ hDn rfl)) rfl (by kernel_rfl) fun xr35 v33 r35 e34 hw4=>?_
     obtain⟨A36,n36,c36,rfl,j36,o36⟩:=r35
     refine mv 1 rfl (a0 (aA ?_))
     have hD1:D≠0:=by omega
     have hbl:bA X=bA (D*2^k)+55:=by rw [zR hD1];omega
     have hE0:D*2^k≠0:=Nat.ne_of_gt (fS hD0 (dW k))
     refine a7 (mv 2 rfl (cl (vs:= [.slice A n c,.slice A36 n36 c36]) hw4 (N4 hw4.size (hX.ext hw4) (bQ hXn rfl) o36.wi (by rw [j36];exact aG (nZ (n:=67108864) hDl) (by decide)) hE0) rfl (by kernel_rfl) fun xr39 v37 r39 e38 hw5=>?_))
     obtain⟨_,_,_,rfl,⟨A41,n41,c41,rfl,j41,o41⟩,⟨A42,n42,c42,rfl,j42,o42⟩,rfl⟩:=r39
     refine mv 1 rfl (pu (v:= .slice A41 n41 c41) rfl (pu (v:= .slice A42 n42 c42) rfl (pu (v:= .int .i64 0) rfl (mv 3 rfl (a0 (aA ?_))))))
     have hqb:=MY (Nat.pos_of_ne_zero hE0) hbl
     obtain⟨q,hq⟩:∃q,X/(D*2^k)=q:=⟨_,rfl⟩
     obtain⟨r,hr⟩:∃r,X%(D*2^k)=r:=⟨_,rfl⟩
     rw [hq] at hqb j41 o41
     rw [hr] at j42 o42
     replace hq:=Lib.hid hq
     replace hr:=Lib.hid hr
     have hq0:q≠0:=fun e=>by rw [e,kV] at hqb;omega
     have hq56:q<72057594037927936:=KF hqb
     have hq1:=yO hq0
     refine a7 (mv 1 rfl ?_)
     obtain⟨p43,hp43,hc43⟩:=yF o41 j41 hq1
     refine bT rfl rfl rfl bU bN 0 rfl p43 hp43 (aS rfl rfl (cZ d7 hc43) (mv 1 rfl (a0 (aA ?_)))) (hj:=(by rw [j41,hq1];decide))
     obtain⟨d,hd⟩:∃d:Nat,max (((bA q:Nat):Int)- -((k:Nat):Int)-53) (-1074)=(d:Int)- -((k:Nat):Int):=⟨(max (((bA q:Nat):Int)- -((k:Nat):Int)-53) (-1074)+ -((k:Nat):Int)).toNat,by omega⟩
     have hd2:2≤d:=by omega
     have hdb:bA q≤d+53:=by omega
     obtain⟨p,hp⟩:∃p:Nat,(d:Int)- -((k:Nat):Int)- -1074=(p:Int):=⟨((d:Int)- -((k:Nat):Int)+1074).toNat,by omega⟩
     have hpz:p=0∨bA q=d+53:=by omega
     have hpu:p≤2048:=by omega
     refine a7 (mv 1 rfl (cl (vs:= [.slice A41 n41 c41]) hw5 (oC o41.wi (by rw [j41];exact aG (Nat.le_of_eq hq1) (by decide))) rfl (by kernel_rfl) fun xr46 v44 r46 iD hw6=>?_))
     obtain rfl:=r46
     refine mv 1 rfl (aE rfl rfl rfl (((bA q:Nat):Int)-(-((k:Nat):Int))) (dM rfl) (aE rfl rfl rfl ((((bA q:Nat):Int)-(-((k:Nat):Int)))-53) (dM rfl) (F8 rfl rfl rfl ((d:Int)- -((k:Nat):Int)) hd (by decide) (mv 1 rfl (a0 (sr (mv 2 rfl (aE rfl rfl rfl ((d:Nat):Int) (lJ) (mv 1 rfl (a0 (aA (aA ?_))))))))))))
     by_cases hd60:60<d
     · 
      refine a7 (mv 1 rfl (aB rfl rfl rfl true (dJ (a:=d) (b:=60) rfl rfl) (a0 (aP rfl (sr (mv 1 rfl (a0 (aM (bL (aL [.float .f64 0] rfl ⟨rfl,trivial⟩ ?_))))))))))
      exact⟨_,rfl,(show Value.float .f64 0=_ by rw [JR (X:=X*2^bM) (N:=X) (E:=D*2^k) (d:=d) (p:=p) hD0 (Nat.pos_of_ne_zero hE0) (JS (by have:=i6;omega)) (show p=0 by omega) hq.out hq56 (by omega)]),hw6⟩
     · 
      refine a7 (mv 1 rfl (aB rfl rfl rfl false (d6 (a:=d) (b:=60) rfl rfl) (a0 (aI rfl (aN (aD (aA ?_)))))))
      have hcode:=JT (X:=X*2^bM) (D:=D) (N:=X) (E:=D*2^k) (d:=d) (p:=p) hD0 (Nat.pos_of_ne_zero hE0) (by omega) (JS (by have:=i6;omega)) (by rw [hq.out];exact hdb) (by rw [hq.out];exact hpz)
      rw [hq.out,hr.out] at hcode
      replace hcode:=Lib.hid hcode
      have hm53:=JO hdb (by omega)
      have h2d:1≤2^d:=dW d
      have h2d60:2^d≤2^60:=dU (by decide) (by omega)
      have hc64:q%2^d≤q:=Nat.mod_le _ _
      have hd163:d-1≤63:=by omega
      have h2d1:2^(d-1)≤2^d:=dU (by decide) (by omega)
      refine a7 (mv 2 rfl (bD rfl rfl (v:= .int .u64 (IntKind.u64.wrap ((d:Nat):Int))) (v':= .int .u64 d) (eD (by first | omega | exact (by omega))) (bS rfl rfl rfl (r:= .int .u64 ((q/2^d:Nat):Int)) rfl (fun w=>l8 (x:=q) (s:=d) (by omega) _ _ w) (mv 2 rfl (bD rfl rfl (v:= .int .u64 (IntKind.u64.wrap ((d:Nat):Int))) (v':= .int .u64 d) (eD (by first | omega | exact (by omega))) (bS rfl rfl rfl (r:= .int .u64 ((2^d:Nat):Int)) rfl (fun w=>x8 (s:=d) _ _ w) (aE rfl rfl rfl (((2^d)-1:Nat):Int) (qW (a:=2^d) (b:=1) rfl rfl) (bS rfl rfl rfl (r:= .int .u64 ((q%2^d:Nat):Int)) rfl (fun w=>x9 (x:=q) (d:=d) (by omega) (by omega) _ _ w) (mv 2 rfl (a0 (sr (mv 1 rfl (aE rfl rfl rfl ((d-1:Nat):Int) (eR (a:=d) (b:=1) rfl rfl) ?_)))))))))))))
      refine bD rfl rfl (v:= .int .u64 (IntKind.u64.wrap ((d-1:Nat):Int))) (v':= .int .u64 ((d-1:Nat):Int)) (eD (by first | omega | exact (by omega))) (bS rfl rfl rfl (r:= .int .u64 ((2^(d-1):Nat):Int)) rfl (fun w=>x8 (s:=d-1) _ _ w) (mv 1 rfl (a0 (aA (aA ?_)))))
      by_cases hab:2^(d-1)<q%2^d
      · 
       refine a7 (mv 2 rfl (aB rfl rfl rfl true (dJ (a:=q%2^d) (b:=2^(d-1)) rfl rfl) (mv 14 rfl (pu (v:= .bool true) rfl (a0 (aP rfl (a7 (mv 1 rfl (aE rfl rfl rfl (((q/2^d)+1:Nat):Int) (eW (a:=q/2^d) (b:=1) rfl rfl) (mv 1 rfl (a0 (sr (mv 1 rfl ?_)))))))))))))
       refine aE rfl rfl rfl ((p:Nat):Int) (dM hp) (bD rfl rfl (v:= .int .u64 (IntKind.u64.wrap ((p:Nat):Int))) (v':= .int .u64 p) (eD (by first | omega | exact (by omega))) (bS rfl rfl rfl (r:= .int .u64 ((p*4503599627370496:Nat):Int)) rfl (fun w=>nS (x:=p) _ _ w) (mv 1 rfl (aE rfl rfl rfl (((p*4503599627370496)+((q/2^d)+1):Nat):Int) (eW (a:=p*4503599627370496) (b:=(q/2^d)+1) rfl rfl) (mv 1 rfl (a0 (sr (mv 1 rfl ?_))))))))
       obtain⟨m64,hm64⟩:∃m,min ((p*4503599627370496)+((q/2^d)+1)) 9218868437227405312=m:=⟨_,rfl⟩
       replace hm64:=Lib.hid hm64
       refine nO rfl rfl rfl (((m64:Nat):Int)) ((nY ((p*4503599627370496)+((q/2^d)+1)) 9218868437227405312).trans (by rw [hm64.out])) (pu (v:= .float .f64 m64) rfl (mv 1 rfl (a0 (aM (aL [.float .f64 m64] rfl ⟨rfl,trivial⟩ ?_)))))
       replace hcode:=hcode.out
       rw [if_pos (cE hab)] at hcode
       exact⟨_,rfl,(show Value.float .f64 m64=_ by unfold cU;rw [hcode,hm64.out]),hw6⟩
      · 
       by_cases heq:q%2^d=2^(d-1)
       · 
        by_cases hr0:r≠0
        · 
         have hln:n42≠0:=by rw [j42];exact fun e=>hr0 (jN.1 e)
         refine a7 (mv 2 rfl (aB rfl rfl rfl false (d6 (a:=q%2^d) (b:=2^(d-1)) rfl rfl) (mv 3 rfl (aB rfl rfl rfl true (dA (a:=q%2^d) (b:=2^(d-1)) rfl rfl) (mv 2 rfl (pu (v:= .int .i64 n42) rfl (aB rfl rfl rfl true (dJ (a:=n42) (b:=0) rfl rfl) (mv 4 rfl (pu (v:= .bool true) rfl (pu (v:= .bool true) rfl (pu (v:= .bool true) rfl (a0 (aP rfl ?_)))))))))))))
         refine a7 (mv 1 rfl (aE rfl rfl rfl (((q/2^d)+1:Nat):Int) (eW (a:=q/2^d) (b:=1) rfl rfl) (mv 1 rfl (a0 (sr (mv 1 rfl (aE rfl rfl rfl ((p:Nat):Int) (dM hp) (bD rfl rfl (v:= .int .u64 (IntKind.u64.wrap ((p:Nat):Int))) (v':= .int .u64 p) (eD (by first | omega | exact (by omega))) (bS rfl rfl rfl (r:= .int .u64 ((p*4503599627370496:Nat):Int)) rfl (fun w=>nS (x:=p) _ _ w) (mv 1 rfl (aE rfl rfl rfl (((p*4503599627370496)+((q/2^d)+1):Nat):Int) (eW (a:=p*4503599627370496) (b:=(q/2^d)+1) rfl rfl) (mv 1 rfl (aU ?_)))))))))))))
         refine aD (sr (mv 1 rfl ?_))
         obtain⟨m64,hm64⟩:∃m,min ((p*4503599627370496)+((q/2^d)+1)) 9218868437227405312=m:=⟨_,rfl⟩
         replace hm64:=Lib.hid hm64
         refine nO rfl rfl rfl (((m64:Nat):Int)) ((nY ((p*4503599627370496)+((q/2^d)+1)) 9218868437227405312).trans (by rw [hm64.out])) (pu (v:= .float .f64 m64) rfl (mv 1 rfl (a0 (aM (aL [.float .f64 m64] rfl ⟨rfl,trivial⟩ ?_)))))
         replace hcode:=hcode.out
         rw [if_pos (bR ⟨heq,cE hr0⟩)] at hcode
         exact⟨_,rfl,(show Value.float .f64 m64=_ by unfold cU;rw [hcode,hm64.out]),hw6⟩
        · 
         have hln:n42=0:=by rw [j42];exact jN.2 (by omega)
         by_cases hod:q/2^d%2=1
         · 
          refine a7 (mv 2 rfl (aB rfl rfl rfl false (d6 (a:=q%2^d) (b:=2^(d-1)) rfl rfl) (mv 3 rfl (aB rfl rfl rfl true (dA (a:=q%2^d) (b:=2^(d-1)) rfl rfl) (mv 2 rfl (pu (v:= .int .i64 n42) rfl (aB rfl rfl rfl false (d6 (a:=n42) (b:=0) rfl rfl) (mv 2 rfl (bS rfl rfl rfl (r:= .int .u64 (((q/2^d)%2:Nat):Int)) rfl (fun w=>sS (x:=q/2^d) (by first | omega | exact (by omega)) _ _ w) (aB rfl rfl rfl true (dA (a:=(q/2^d)%2) (b:=1) rfl rfl) (pu (v:= .bool true) rfl (pu (v:= .bool true) rfl (pu (v:= .bool true) rfl ?_)))))))))))))
          refine a0 (aP rfl (a7 (mv 1 rfl (aE rfl rfl rfl (((q/2^d)+1:Nat):Int) (eW (a:=q/2^d) (b:=1) rfl rfl) (mv 1 rfl (a0 (sr (mv 1 rfl (aE rfl rfl rfl ((p:Nat):Int) (dM hp) (bD rfl rfl (v:= .int .u64 (IntKind.u64.wrap ((p:Nat):Int))) (v':= .int .u64 p) (eD (by first | omega | exact (by omega))) (bS rfl rfl rfl (r:= .int .u64 ((p*4503599627370496:Nat):Int)) rfl (fun w=>nS (x:=p) _ _ w) (mv 1 rfl (aE rfl rfl rfl (((p*4503599627370496)+((q/2^d)+1):Nat):Int) (eW (a:=p*4503599627370496) (b:=(q/2^d)+1) rfl rfl) ?_)))))))))))))
          refine mv 1 rfl (a0 (sr (mv 1 rfl ?_)))
          obtain⟨m64,hm64⟩:∃m,min ((p*4503599627370496)+((q/2^d)+1)) 9218868437227405312=m:=⟨_,rfl⟩
          replace hm64:=Lib.hid hm64
          refine nO rfl rfl rfl (((m64:Nat):Int)) ((nY ((p*4503599627370496)+((q/2^d)+1)) 9218868437227405312).trans (by rw [hm64.out])) (pu (v:= .float .f64 m64) rfl (mv 1 rfl (a0 (aM (aL [.float .f64 m64] rfl ⟨rfl,trivial⟩ ?_)))))
          replace hcode:=hcode.out
          rw [if_pos (bR ⟨heq,bR hod⟩)] at hcode
          exact⟨_,rfl,(show Value.float .f64 m64=_ by unfold cU;rw [hcode,hm64.out]),hw6⟩
         · 
          refine a7 (mv 2 rfl (aB rfl rfl rfl false (d6 (a:=q%2^d) (b:=2^(d-1)) rfl rfl) (mv 3 rfl (aB rfl rfl rfl true (dA (a:=q%2^d) (b:=2^(d-1)) rfl rfl) (mv 2 rfl (pu (v:= .int .i64 n42) rfl (aB rfl rfl rfl false (d6 (a:=n42) (b:=0) rfl rfl) (mv 2 rfl (bS rfl rfl rfl (r:= .int .u64 (((q/2^d)%2:Nat):Int)) rfl (fun w=>sS (x:=q/2^d) (by first | omega | exact (by omega)) _ _ w) (aB rfl rfl rfl false (dC (a:=(q/2^d)%2) (b:=1) rfl rfl) (pu (v:= .bool false) rfl (pu (v:= .bool false) rfl (pu (v:= .bool false) rfl ?_)))))))))))))
          refine a0 (aI rfl (aN (aD (sr (mv 1 rfl (aE rfl rfl rfl ((p:Nat):Int) (dM hp) (bD rfl rfl (v:= .int .u64 (IntKind.u64.wrap ((p:Nat):Int))) (v':= .int .u64 p) (eD (by first | omega | exact (by omega))) (bS rfl rfl rfl (r:= .int .u64 ((p*4503599627370496:Nat):Int)) rfl (fun w=>nS (x:=p) _ _ w) (mv 1 rfl (aE rfl rfl rfl (((p*4503599627370496)+(q/2^d):Nat):Int) (eW (a:=p*4503599627370496) (b:=q/2^d) rfl rfl) (mv 1 rfl (a0 (aA ?_)))))))))))))
          refine a7 (mv 1 rfl ?_)
          obtain⟨m64,hm64⟩:∃m,min ((p*4503599627370496)+(q/2^d)) 9218868437227405312=m:=⟨_,rfl⟩
          replace hm64:=Lib.hid hm64
          refine nO rfl rfl rfl (((m64:Nat):Int)) ((nY ((p*4503599627370496)+(q/2^d)) 9218868437227405312).trans (by rw [hm64.out])) (pu (v:= .float .f64 m64) rfl (mv 1 rfl (a0 (aM (aL [.float .f64 m64] rfl ⟨rfl,trivial⟩ ?_)))))
          replace hcode:=hcode.out
          rw [if_neg (by omega)] at hcode
          exact⟨_,rfl,(show Value.float .f64 m64=_ by unfold cU;rw [hcode,hm64.out]),hw6⟩
       · 
        refine a7 (mv 2 rfl (aB rfl rfl rfl false (d6 (a:=q%2^d) (b:=2^(d-1)) rfl rfl) (mv 3 rfl (aB rfl rfl rfl false (dC (a:=q%2^d) (b:=2^(d-1)) rfl rfl) (mv 9 rfl (pu (v:= .bool false) rfl (pu (v:= .bool false) rfl (a0 (aI rfl (aN (aD (sr (mv 1 rfl ?_)))))))))))))
        refine aE rfl rfl rfl ((p:Nat):Int) (dM hp) (bD rfl rfl (v:= .int .u64 (IntKind.u64.wrap ((p:Nat):Int))) (v':= .int .u64 p) (eD (by first | omega | exact (by omega))) (bS rfl rfl rfl (r:= .int .u64 ((p*4503599627370496:Nat):Int)) rfl (fun w=>nS (x:=p) _ _ w) (mv 1 rfl (aE rfl rfl rfl (((p*4503599627370496)+(q/2^d):Nat):Int) (eW (a:=p*4503599627370496) (b:=q/2^d) rfl rfl) (mv 1 rfl (a0 (sr (mv 1 rfl ?_))))))))
        obtain⟨m64,hm64⟩:∃m,min ((p*4503599627370496)+(q/2^d)) 9218868437227405312=m:=⟨_,rfl⟩
        replace hm64:=Lib.hid hm64
        refine nO rfl rfl rfl (((m64:Nat):Int)) ((nY ((p*4503599627370496)+(q/2^d)) 9218868437227405312).trans (by rw [hm64.out])) (pu (v:= .float .f64 m64) rfl (mv 1 rfl (a0 (aM (aL [.float .f64 m64] rfl ⟨rfl,trivial⟩ ?_)))))
        replace hcode:=hcode.out
        rw [if_neg (by omega)] at hcode
        exact⟨_,rfl,(show Value.float .f64 m64=_ by unfold cU;rw [hcode,hm64.out]),hw6⟩
end
section
open Go.RowKit
def qN (X:Nat)(e:Int):Nat:=X*2^(-e).toNat
def qD (D:Nat)(e:Int):Nat:=D*2^e.toNat
theorem IU (h:0<D):0<qD D e:=fS h (dW _)
theorem V4 (hE:0<E)(h:bA N=bA E+53):4503599627370496≤N/E∧N/E<18014398509481984:=by
 have hN:N≠0:=fun e=>by rw [e,kV] at h;omega
 have h1:=lH hN
 have h2:=jV N
 have h3:=lH (n:=E) (by omega)
 have h4:=jV E
 have hb:bA E≠0:=fun e=>by have:=kD.1 e;omega
 constructor
 ·rw [show (4503599627370496:Nat)=2^52 from rfl]
  refine (Nat.le_div_iff_mul_le hE).2 (aG (eF _ (Nat.le_of_lt h4)) ?_)
  rw [←bX]
  exact aG (dU (by decide) (by omega)) h1
 ·rw [show (18014398509481984:Nat)=2^54 from rfl]
  refine (k0 hE).2 (dF h2 ?_)
  refine aG ?_ (eF _ h3)
  rw [←bX]
  exact dU (by decide) (by omega)
theorem IR (hX:X≠0)(hD:0<D)(he:e=(bA X:Int)-bA D-53):4503599627370496≤qN X e/qD D e∧qN X e/qD D e<18014398509481984:=by
 refine V4 (IU hD) ?_
 unfold qN qD
 rw [zR hX,zR (by omega)]
 omega
theorem IQ (X D:Nat)(e:Int):qN X (e+1)/qD D (e+1)=qN X e/qD D e/2:=by
 unfold qN qD
 by_cases h:0≤e
 ·rw [show (-(e+1)).toNat=0 by omega,show (-e).toNat=0 by omega,show (e+1).toNat=e.toNat+1 by omega,cB,←bH,Nat.div_div_eq_div_mul]
 ·rw [show (-e).toNat=(-(e+1)).toNat+1 by omega,show (e+1).toNat=0 by omega,show e.toNat=0 by omega,cB,←bH,Nat.div_div_eq_div_mul,rA _ _ (by decide)]
theorem V5 (X D:Nat)(e:Int)(k:Nat):qN X (e+k)/qD D (e+k)≤qN X e/qD D e:=by
 induction k with
 | zero=>rw [Int.natCast_zero,Int.add_zero];exact b8 _
 | succ k ih=>
  rw [show e+((k+1:Nat):Int)=e+(k:Int)+1 by omega,IQ]
  exact aG (fI _ _) ih
theorem IP {e1 e2:Int}(hX:X≠0)(hD:0<D)(he:e=(bA X:Int)-bA D-53)(h1:(bA (qN X e/qD D e)>53∧e1=e+1)∨(¬bA (qN X e/qD D e)>53∧e1=e))(h2:(e1< -1074∧e2= -1074)∨(¬e1< -1074∧e2=e1)):
  qN X e2/qD D e2<9007199254740992∧(e2= -1074∨4503599627370496≤qN X e2/qD D e2)∧ -1074≤e2:=by
 have hq:=IR hX hD he
 have key:4503599627370496≤qN X e1/qD D e1∧qN X e1/qD D e1<9007199254740992:=by
  rcases h1 with⟨h,rfl⟩ | ⟨h,rfl⟩
  ·rw [IQ]
   have h3:9007199254740992≤qN X e/qD D e:=by
    refine pQ fun hc=>?_
    have:=tS (n:=qN X e/qD D e) (k:=53) hc
    omega
   omega
  ·have h3:=jV (qN X e1/qD D e1)
   have h4:(2:Nat)^bA (qN X e1/qD D e1)≤2^53:=dU (by decide) (by omega)
   exact⟨hq.1,dF h3 h4⟩
 rcases h2 with⟨h,rfl⟩ | ⟨h,rfl⟩
 ·have:=V5 X D e1 (-1074-e1).toNat
  rw [show e1+((-1074-e1).toNat:Int)= -1074 by omega] at this
  exact⟨iH this key.2,cE rfl,by omega⟩
 ·exact⟨key.2,bR key.1,by omega⟩
structure NQ (X D:Nat)(e:Int)(w:Nat):Prop where
 rung:gY (X*2^bM) D=(e+1074).toNat*4503599627370496+w
 low: -1074≤e
 lt:w<9007199254740992
 full:e= -1074∨4503599627370496≤w
theorem W6 (hD:0<D)(he: -1074≤e)(h1:qN X e/qD D e<9007199254740992)(h2:e= -1074∨4503599627370496≤qN X e/qD D e):
  gY (X*2^bM) D=(e+1074).toNat*4503599627370496+iP (qN X e/qD D e) (qN X e%qD D e) (qD D e):=by
 obtain⟨k,hk,e1,e2⟩:∃k,0<k∧X*2^bM=qN X e*k∧D*2^(e+1074).toNat=qD D e*k:=by
  refine⟨2^(bM-(-e).toNat),dW _,?_,?_⟩
  ·unfold qN
   rw [bH,←bX,Nat.add_sub_cancel' (by have:=i6;omega)]
  ·unfold qD
   rw [bH,←bX]
   congr 2
   have:=i6;omega
 have hG:=IU (e:=e) hD
 have hp:(e+1074).toNat=0∨4503599627370496≤qN X e/qD D e:=h2.imp (fun h=>by omega) id
 generalize qN X e=N at*
 generalize qD D e=G at*
 have a1:X*2^bM<D*2^(e+1074).toNat*9007199254740992:=by
  rw [e1,e2,kH]
  exact (Nat.mul_lt_mul_right hk).2 (by rw [bY];exact (k0 hG).1 h1)
 have a2:(e+1074).toNat=0∨D*2^(e+1074).toNat*4503599627370496≤X*2^bM:=hp.imp id fun h=>by
  rw [e1,e2,kH]
  exact eA _ (by rw [bY];exact (Nat.le_div_iff_mul_le hG).1 h)
 have:=vJ hD (CH hD a1 a2)
 rw [e1,e2,rA _ _ hk,sK,HU hk] at this
 rw [e1];exact this
theorem JI {e':Int}{w:Nat}(hD:0<D)(he: -1074≤e)(h1:qN X e/qD D e<9007199254740992)(h2:e= -1074∨4503599627370496≤qN X e/qD D e)(hw:(iP (qN X e/qD D e) (qN X e%qD D e) (qD D e)=9007199254740992∧w=4503599627370496∧e'=e+1)∨(iP (qN X e/qD D e) (qN X e%qD D e) (qD D e)≠9007199254740992∧w=iP (qN X e/qD D e) (qN X e%qD D e) (qD D e)∧e'=e)):NQ X D e' w:=by
 have h:=W6 hD he h1 h2
 have hle:iP (qN X e/qD D e) (qN X e%qD D e) (qD D e)≤qN X e/qD D e+1:=by unfold iP;split <;> omega
 have hge:qN X e/qD D e≤iP (qN X e/qD D e) (qN X e%qD D e) (qD D e):=by unfold iP;split <;> omega
 generalize iP (qN X e/qD D e) (qN X e%qD D e) (qD D e)=W at*
 rcases hw with⟨h3,rfl,rfl⟩ | ⟨h3,rfl,rfl⟩
 ·refine⟨?_,by omega,by omega,bR (b8 _)⟩
  rw [h,h3,show (e+1+1074).toNat=(e+1074).toNat+1 by omega]
  omega
 ·exact⟨h,he,by omega,h2.imp id fun h=>by omega⟩
theorem NQ.inf {w:Nat}(h:NQ X D e w)(he:971<e):cU (X*2^bM) D=9218868437227405312:=by
 obtain⟨h1,h2,h3,h4⟩:=h
 unfold cU
 rw [h1]
 omega
theorem NQ.sub {w:Nat}(h:NQ X D e w)(hw:w<4503599627370496):cU (X*2^bM) D=w:=by
 obtain⟨h1,h2,h3,h4⟩:=h
 unfold cU
 rw [h1]
 omega
theorem NQ.mid {w:Nat}(h:NQ X D e w)(he:e≤971)(hw:¬w<4503599627370496):cU (X*2^bM) D=(e+1075).toNat*4503599627370496+w-4503599627370496:=by
 obtain⟨h1,h2,h3,h4⟩:=h
 unfold cU
 rw [h1]
 omega
theorem T0:(iP q r G=if dH (r*2^1) G>0∨(dH (r*2^1) G=0∧q%2=1) then q+1 else q):=by
 unfold iP dH
 rw [Nat.pow_one]
 rcases Nat.lt_trichotomy (r*2) G with h | h | h
 ·rw [if_neg (by omega),if_pos h,if_neg (by omega)]
 ·rw [if_neg (by omega:¬r*2<G),if_pos h]
  by_cases h2:q%2=1
  ·rw [if_pos (by omega),if_pos (by omega)]
  ·rw [if_neg (by omega),if_neg (by omega)]
 ·rw [if_pos (by omega),if_neg (by omega:¬r*2<G),if_neg (by omega:¬r*2=G),if_pos (by omega)]
theorem Ri.updO {w w':a6}(h:Ri b w A n c xs)(u:UpdO B w w')(hne:∀p,B=some p→0<c→∀q,A=some q→p.block≠q.block):Ri b w' A n c xs:=
 ⟨⟨h.rv.len,h.rv.le,h.rv.max,fun i hi=>by
  obtain⟨a,ha,hc⟩:=h.rv.get i hi
  have hcp:0<c:=by have:=h.rv.le;omega
  refine⟨a,ha,u.by_.cell hc fun e=>?_⟩
  rw [pJ] at e
  cases B with
  | none=>cases e
  | some p=>exact hne p rfl hcp a ha (l4 e).symm,fun a ha hc=>dF (h.rv.blk a ha hc) u.size⟩,h.wf⟩
theorem P1 {Q:Exit→Act→a6→Prop}{l:Fr}{w:a6}{x y:cS}{t e:aT}{z:aH}{i j:Int}(hw:dI ops l gd=some true)(hx:bZ l x=some (.int .i64 i))(hy:bZ l y=some (.int .i64 j))(hi:i=(k:Int))(hj:j=(c:Int))(ht:P.underlying t=some (.slice e)){bytes:Nat}(hinfo:(P.info? e).map (fun i=>(i.zero,i.size,i.bytes))=some (some z,1,bytes))(hz:z.cells= #[z])(hby:bytes≤64)(hkc:k≤c)(hk:c≤1099511627776)(hd:d<n)(h:∀g w',w.heap.size=g→Own w' g e 1 (some ⟨g,0,none⟩) k c (bP k z)→Ext w w'→g≤w'.heap.size→wl P ops Q n rest ((d,.slice (some ⟨g,0,none⟩) k c)::l) w'):wl P ops Q n (⟨some d,.makeSlice t x y,ty,pos,af,gd⟩::rest) l w:=by
 subst hi hj
 obtain⟨i,hi,hz0,hz1,hz2⟩:=info_parts hinfo
 have hr:=run_make (P:=P) w t e i _ ht hi hz0 .i64 .i64 (k:Int) (c:Int) (by omega) (by omega) (by rw [hz2,←kN];have:=jQ hby hk;omega) (by omega)
 rw [gV,gV,hz1] at hr
 obtain⟨cs,hcs,hcl⟩:∃cs:List aH,madeCells z.cells (c*1)=cs.toArray∧cs=bP c z:=⟨(madeCells z.cells (c*1)).toList,Array.toArray_toList.symm,by rw [hz,cI,toList_madeCells_one]⟩
 rw [hcs] at hr
 refine fJ hw hd (fun a' ha=>?_) (h _ (w.alloc (.cells cs.toArray e)) rfl (bR ⟨w.heap.size,cs,rfl,b8 _,Bk.new _ _ _,hkc,by rw [eY];omega,by rw [hcl,List.length_replicate,cI],by rw [hcl,cI,List.take_replicate,fT hkc]⟩) ((Ext.refl w).alloc _) ((Ext.refl w).alloc _).size)
 have e':(rB t (a'.eval x) (a'.eval y)).run P w= .ok (.slice (some ⟨w.heap.size,0,none⟩) k c) (w.alloc (.cells cs.toArray e)):=by rw [ha.ev hx,ha.ev hy];exact hr
 show ((rB t (a'.eval x) (a'.eval y)>>=fun r=>pure (fZ r):Sem Next)).run P w=_
 rw [cK,e'];rfl
theorem CA (h:i≤k)(hk:k≤15):2^i≤32768:=aG (dU (by decide) (show i≤15 by omega)) (by decide)
set_option maxHeartbeats 4000000 in
theorem UZ {w:a6}(hk:k≤15):
    aO aF 178 #[.int .i64 k] w (Gv w (Is (.int .i64 ((2^k:Nat):Int)))):=by
 refine bK Tryz.func178 rfl (n:=13) rfl (bq rfl) (args:= [.int .i64 k]) (bE [(0,.int .i64 k)] ⟨rfl,trivial⟩ (sr (mv 1 rfl (a0 (sr (mv 1 rfl (a0 (aA (sr (mv 1 rfl (a0 (bG ?_))))))))))))
 refine d4 (T:=a6×Nat×Nat)
  (fun⟨wr,i,p⟩=> [(0,.int .i64 k),(3,.int .i64 p),(4,.int .i64 i)])
  (fun⟨wr,i,p⟩=>wr)
  (fun⟨wr,i,p⟩=>(Ext w wr)∧(i≤k)∧(p=2^i))
  (fun⟨wr,i,p⟩=>k-i)
  (⟨w,0,1⟩:a6×Nat×Nat) ⟨(Ext.refl w),(bW _),rfl⟩ rfl ⟨rfl,rfl,rfl,trivial⟩ ?_
 rintro⟨wr,i,p⟩ ⟨hw1,hi,hp⟩
 refine cC [(0,.int .i64 k),(3,.int .i64 p),(4,.int .i64 i)] wr rfl ⟨rfl,rfl,rfl,trivial⟩ ?_
 have hpb:p≤32768:=by rw [hp];exact CA hi hk
 refine aA (aA ?_)
 by_cases hlt:i<k
 · 
  refine a7 (mv 2 rfl (aB rfl rfl rfl true (dB (a:=i) (b:=k) rfl rfl) (a0 (aP rfl (aN (aD (aA (bG (a7 (mv 1 rfl (aE rfl rfl rfl ((2*p:Nat):Int) (nB (a:=2) (b:=p) rfl rfl) (mv 1 rfl (aU ?_)))))))))))))
  refine cA (aD (a7 (mv 1 rfl (aE rfl rfl rfl ((i+1:Nat):Int) (bF (a:=i) (b:=1) rfl rfl) (mv 1 rfl (aU (cH (⟨wr,i+1,2*p⟩:a6×Nat×Nat) ⟨hw1,(by omega),(by rw [hp,cB,bY])⟩ (show k-(i+1)<k-i by omega) rfl ⟨rfl,rfl,rfl,trivial⟩)))))))
 · 
  refine a7 (mv 2 rfl (aB rfl rfl rfl false (cX (a:=i) (b:=k) rfl rfl) (a0 (aI rfl (cR (cN (cP (cQ (aD (sr (mv 2 rfl (a0 (aM ?_)))))))))))))
  refine aL [.int .i64 p] rfl ⟨rfl,trivial⟩ ?_
  have hik:i=k:=by omega
  exact⟨_,rfl,(show bV .i64 ((p:Nat):Int)=_ by rw [hp,hik]),hw1⟩
theorem IM {w:a6}(hp:p=2^k)(hk:k≤15):aO aF 178 #[.int .i64 k] w (Gv w (Is (.int .i64 p))):=by subst hp;exact UZ hk
theorem RF (hd:d≤65535)(hc:cy<p):(d*p+cy)/65536<p:=by
 rw [k0 (by decide)]
 have:d*p≤65535*p:=eA _ hd
 omega
theorem RA (hi:i<ds.length)(hl:es.length=i)(h:nb 65536 es+65536^i*cy=nb 65536 (ds.take i)*p):
  nb 65536 (es++ [(ds.getD i 0*p+cy)%65536])+65536^(i+1)*((ds.getD i 0*p+cy)/65536)=nb 65536 (ds.take (i+1))*p:=by
 have e:=Nat.mod_add_div (ds.getD i 0*p+cy) 65536
 rw [vL,hl,iL 65536 ds i hi,dX,←h,cB,bH (65536^i) 65536,j0,←cT,e,cT,bH (65536^i)]
 omega
theorem RE (hl:es.length=(db 65536 X).length)(hp:p=2^(n%16))(h:nb 65536 es+65536^(db 65536 X).length*cy=nb 65536 ((db 65536 X).take (db 65536 X).length)*p):
  nb 65536 ((bP (n/16) 0++es)++ [cy])=X*2^n:=by
 rw [List.append_assoc,rP,vK,f9,List.length_replicate,vL,hl,h,List.take_length,iB fP,hp]
 have e:(65536:Nat)^(n/16)=2^(16*(n/16)):=by rw [Nat.pow_mul]
 rw [e,Nat.mul_left_comm,←bX,iA]
theorem EV {w:a6}:WR b 0 (.slice none 0 0) w:=⟨none,0,0,rfl,rfl,Own.nil _ _ _ _⟩
theorem TA (k:Nat):bP k (bV .i64 0)=(bP k 0).map I6:=by rw [sM];rfl
theorem KJ {w:a6}(h:Rd w A n c xs):(wd (nv xs)).length≤n:=by
 refine fY ?_
 have:=jM h.wf
 rwa [h.len] at this
theorem RD (h:(wd X).length≤N):(wd (X*2^n)).length≤N+n:=by
 refine fY ?_
 rw [bX]
 have h1:=kS X
 have h2:X<WB^N:=dF h1 (dU gE h)
 refine dF ((Nat.mul_lt_mul_right (dW n)).2 h2) (eF _ ?_)
 exact Nat.pow_le_pow_left (by rw [cF];decide) _
theorem YY {w:a6}{lb:Nat}(hb:b≤w.heap.size)(hM:nb 65536 ds=M)(h:Own w lb 3 1 A n c (ds.map I6))(hw:Wfb 65536 ds)(hl:n≤1099511627775):aO aF 179 #[.slice A n c] w (Gv w (WR b M)):=by subst hM;exact (uZ ⟨h.rv,hw⟩ hl).mono (gw hb)
set_option maxHeartbeats 4000000 in
theorem V3 {w:a6}(hx:Rd w A m c xs)(hm:m≤2097152)(hn:n≤1048576):
    aO aF 176 #[.slice A m c,.int .i64 n] w (Gv w (T2 (WR w.heap.size (nv xs*2^n)) (Is (.int .i64 0)))):=by
 have hdl:=yP hx
 obtain⟨p,hp⟩:∃p,p=2^(n%16):=⟨_,rfl⟩
 have hpb:p≤32768:=by rw [hp];exact CA (b8 _) (by omega)
 have hpp:0<p:=by rw [hp];exact dW _
 have hLn:(wd (nv xs*2^n)).length≤67108864:=aG (RD (aG (KJ hx) hm)) (by omega)
 refine bK Tryz.func176 rfl (n:=60) rfl (bq rfl) (args:= [.slice A m c,.int .i64 n]) (bE [(0,.slice A m c),(1,.int .i64 n)] ⟨rfl,rfl,trivial⟩ (sr (mv 2 rfl (a0 (aA (sr (mv 1 rfl (aB rfl rfl rfl false (cX (a:=n) (b:=0) rfl rfl) (a0 (aI rfl (aN (aD (aA ?_)))))))))))))
 refine sr (mv 1 rfl (aB rfl rfl rfl false (d6 (a:=n) (b:=1048576) rfl rfl) (a0 (aI rfl (aN (aD (sr (mv 1 rfl (cl (vs:= [.slice A m c]) (Ext.refl w) (yW hx) rfl (by kernel_rfl) fun xr3 v1 r3 e2 hw1=>?_)))))))))
 obtain⟨XA,xn,xc,rfl,rdx⟩:=r3
 have hxn:=rdx.len
 refine mv 1 rfl (a0 (aA (aA ?_)))
 by_cases hxz:xn=0
 · 
  have hx0:nv xs=0:=(zO fP).1 (pU.1 (by omega))
  refine a7 (mv 1 rfl (pu (v:= .int .i64 xn) rfl (aB rfl rfl rfl true (dA (a:=xn) (b:=0) rfl rfl) (a0 (aP rfl (sr (mv 2 rfl (a0 (aM (bL (aL [S0,I0] rfl ⟨rfl,rfl,trivial⟩ ?_)))))))))))
  exact⟨_,rfl,⟨_,_,rfl,(by rw [hx0,iZ];exact EV),rfl⟩,hw1⟩
 · 
  refine a7 (mv 1 rfl (pu (v:= .int .i64 xn) rfl (aB rfl rfl rfl false (dC (a:=xn) (b:=0) rfl rfl) (a0 (aI rfl (aN (aD (sr (mv 1 rfl (aE rfl rfl rfl ((n/16:Nat):Int) (iS (a:=n) (b:=16) rfl rfl) (mv 1 rfl (aE rfl rfl rfl ((n/16:Nat):Int) (iS (a:=n) (b:=16) rfl rfl) (mv 1 rfl ?_)))))))))))))
  refine pu (v:= .int .i64 xn) rfl (aE rfl rfl rfl (((n/16)+xn:Nat):Int) (bF (a:=n/16) (b:=xn) rfl rfl) (aE rfl rfl rfl ((((n/16)+xn)+1:Nat):Int) (bF (a:=(n/16)+xn) (b:=1) rfl rfl) (P1 (k:=n/16) (c:=((n/16)+xn)+1) rfl rfl rfl rfl rfl mL mX rfl (by decide) (by omega) (by omega) (by decide) fun g4 v5 hg6 ho7 e8 gl9=>?_)))
  have hxl:0<c→∀a,A=some a→a.block<g4:=fun hc a ha=>by have:=((hx.ext e2)).rv.blk a ha hc;omega
  have hxl:0<c→∀a,A=some a→a.block<g4:=fun hc a ha=>by have:=((hx.ext e2)).rv.blk a ha hc;omega
  have hxl:0<xc→∀a,XA=some a→a.block<g4:=fun hc a ha=>by have:=(rdx).rv.blk a ha hc;omega
  have hxl:0<xc→∀a,XA=some a→a.block<g4:=fun hc a ha=>by have:=(rdx).rv.blk a ha hc;omega
  have hxl:0<xc→∀a,XA=some a→a.block<g4:=fun hc a ha=>by have:=(rdx).rv.blk a ha hc;omega
  have hxl:0<xc→∀a,XA=some a→a.block<g4:=fun hc a ha=>by have:=(rdx).rv.blk a ha hc;omega
  have hlw:w.heap.size≤g4:=by rw [←hg6];exact hw1.size
  clear hg6
  rw [TA] at ho7
  have hw2:=hw1.trans e8
  refine mv 1 rfl (a0 (sr (mv 1 rfl (aE rfl rfl rfl ((n%16:Nat):Int) (fC (a:=n) (b:=16) rfl rfl) (cl (vs:= [.int .i64 ((n%16:Nat):Int)]) hw2 (IM hp (by omega)) rfl (by kernel_rfl) fun xr13 v11 r13 e12 hw3=>?_)))))
  obtain rfl:=r13
  refine mv 1 rfl (a0 (sr (mv 1 rfl (a0 (aA (sr (mv 1 rfl (a0 (bG ?_)))))))))
  refine d4 (T:=a6×Nat×Nat×List Nat×Option aC×Nat)
   (fun⟨wr,i,cy,es,DA,dc⟩=> [(6,.slice XA xn xc),(7,.slice DA (n/16+i) dc),(8,.int .i64 p),(9,.int .i64 cy),(10,.int .i64 i)])
   (fun⟨wr,i,cy,es,DA,dc⟩=>wr)
   (fun⟨wr,i,cy,es,DA,dc⟩=>(Ext w wr)∧(i≤xn)∧(Own wr g4 3 1 DA (n/16+i) dc ((bP (n/16) 0++es).map I6))∧(g4≤wr.heap.size)∧(es.length=i)∧(Wfb 65536 es)∧(cy<p)∧(nb 65536 es+65536^i*cy=nb 65536 ((db 65536 (nv xs)).take i)*p)∧(Ri 65536 wr XA xn xc (db 65536 (nv xs))))
   (fun⟨wr,i,cy,es,DA,dc⟩=>xn-i)
   (⟨v11,0,0,[],(some ⟨g4,0,none⟩),(((n/16)+xn)+1)⟩:a6×Nat×Nat×List Nat×Option aC×Nat) ⟨hw3,(bW _),(by rw [mJ];exact (ho7.ext e12)),(aG gl9 e12.size),rfl,(fun x hx=>by cases hx),hpp,(by rw [List.take_zero];simp [nb]),(rdx.ext (e8.trans e12))⟩ rfl ⟨rfl,rfl,rfl,rfl,rfl,trivial⟩ ?_
  rintro⟨wr,i,cy,es,DA,dc⟩ ⟨hw1,hi,hO,hgl,hle,hwe,hcy,hv,rl6⟩
  refine cC [(6,.slice XA xn xc),(7,.slice DA (n/16+i) dc),(8,.int .i64 p),(9,.int .i64 cy),(10,.int .i64 i)] wr rfl ⟨rfl,rfl,rfl,rfl,rfl,trivial⟩ (aA (aA ?_))
  by_cases hlt:i<xn
  · 
   refine a7 (mv 2 rfl (pu (v:= .int .i64 xn) rfl (aB rfl rfl rfl true (dB (a:=i) (b:=xn) rfl rfl) (a0 (aP rfl (aN (aD (aA (bG (aA ?_))))))))))
   have hdb:=iY (b:=65536) rl6.wf i
   have hmu:(db 65536 (nv xs)).getD i 0*p≤65535*32768:=jQ (by omega) hpb
   refine a7 (mv 2 rfl ?_)
   obtain⟨p14,hp14,hc14,hv14⟩:=(rl6).at (by decide) (i:=i) (by omega)
   refine bT rfl rfl rfl nR mM i rfl p14 hp14 (aS rfl rfl (cZ zY hc14) (mv 1 rfl (aE rfl rfl rfl ((((db 65536 (nv xs)).getD i 0)*p:Nat):Int) (nB (a:=(db 65536 (nv xs)).getD i 0) (b:=p) rfl rfl) (mv 1 rfl (aE rfl rfl rfl (((((db 65536 (nv xs)).getD i 0)*p)+cy:Nat):Int) (bF (a:=((db 65536 (nv xs)).getD i 0)*p) (b:=cy) rfl rfl) (mv 1 rfl (a0 (sr (mv 2 rfl (aE rfl rfl rfl ((((((db 65536 (nv xs)).getD i 0)*p)+cy)%65536:Nat):Int) (fC (a:=(((db 65536 (nv xs)).getD i 0)*p)+cy) (b:=65536) rfl rfl) (dQ rfl rfl (k:=1) (e:=3) [.int .i64 ((((((db 65536 (nv xs)).getD i 0)*p)+cy)%65536:Nat):Int)] (fun _=>by kernel_rfl) fun g15 v16 nb=>?_)))))))))))
   have hb17:=nb.bk
   have e18:=nb.ext
   clear nb
   have hw2:=hw1.trans e18
   have ow19:=(hO.ext e18)
   refine nP rfl rfl rfl mL mX rfl ow19 (aG hgl e18.size) [.int .i64 ((((((db 65536 (nv xs)).getD i 0)*p)+cy)%65536:Nat):Int)] rfl (oW _ hb17) rfl fun A20 c21 v22 ho23 uo24 kp25=>?_
   have hw3:=uo24.ext hw2 (fun p hp=>aG hlw (ow19.block p hp).1)
   have ho26:Own v22 g4 3 1 A20 ((n/16+i)+1) c21 (((bP (n/16) 0++es)++ [((((db 65536 (nv xs)).getD i 0)*p)+cy)%65536]).map I6):=by have h:=ho23;simp only [List.map_append,iN,j7] at h⊢;exact h
   refine mv 1 rfl (a0 (a7 (mv 1 rfl (aE rfl rfl rfl ((((((db 65536 (nv xs)).getD i 0)*p)+cy)/65536:Nat):Int) (iS (a:=(((db 65536 (nv xs)).getD i 0)*p)+cy) (b:=65536) rfl rfl) (mv 1 rfl (aU (cA (aD (a7 (mv 1 rfl (aE rfl rfl rfl ((i+1:Nat):Int) (bF (a:=i) (b:=1) rfl rfl) (mv 1 rfl (aU ?_)))))))))))))
   refine cH (⟨v22,i+1,((db 65536 (nv xs)).getD i 0*p+cy)/65536,es++ [((db 65536 (nv xs)).getD i 0*p+cy)%65536],A20,c21⟩:a6×Nat×Nat×List Nat×Option aC×Nat) ⟨hw3,(by omega),(by rw [←List.append_assoc];exact ho26),(aG (aG hgl e18.size) uo24.size),(by rw [cL,hle];rfl),(sA hwe (fun x hx=>by rw [jI] at hx;omega)),(RF (by omega) hcy),(RA (by omega) hle hv),(Ri.updO (rl6.ext e18) uo24 (fun p hp hc q hq=>by have h1:=(ow19.block p hp).1;have h2:=hxl hc q hq;omega))⟩ (show xn-(i+1)<xn-i by omega) rfl ⟨rfl,rfl,rfl,rfl,rfl,trivial⟩
  · 
   have hix:i=(db 65536 (nv xs)).length:=by omega
   refine a7 (mv 2 rfl (pu (v:= .int .i64 xn) rfl (aB rfl rfl rfl false (cX (a:=i) (b:=xn) rfl rfl) (a0 (aI rfl (cR (cN (cP (cQ (aD (sr (mv 2 rfl (dQ rfl rfl (k:=1) (e:=3) [.int .i64 cy] (fun _=>by kernel_rfl) fun g28 v29 nb=>?_)))))))))))))
   have hb30:=nb.bk
   have e31:=nb.ext
   clear nb
   have hw2:=hw1.trans e31
   have ow32:=(hO.ext e31)
   refine nP rfl rfl rfl mL mX rfl ow32 (aG hgl e31.size) [.int .i64 cy] rfl (oW _ hb30) rfl fun A33 c34 v35 ho36 uo37 kp38=>?_
   have hw3:=uo37.ext hw2 (fun p hp=>aG hlw (ow32.block p hp).1)
   have ho39:Own v35 g4 3 1 A33 ((n/16+i)+1) c34 (((bP (n/16) 0++es)++ [cy]).map I6):=by have h:=ho36;simp only [List.map_append,iN,j7] at h⊢;exact h
   refine mv 1 rfl (a0 (sr (mv 1 rfl ?_)))
   have hwf:=sA (sA (pL (n/16) (hb:=(show 0<65536 by decide))) hwe) (fun x (hx:x∈ [cy])=>by rw [jI] at hx;omega)
   have hend:=RE (hle.trans hix) hp (by rw [←hix];exact hv)
   refine cl (vs:= [.slice A33 ((n/16+i)+1) c34]) hw3 (YY hw3.size hend ho39 hwf (by omega)) rfl (by kernel_rfl) fun xr43 v41 r43 e42 hw4=>?_
   obtain⟨A44,n44,c44,rfl,j44,o44⟩:=r43
   refine mv 2 rfl (a0 (aM (aL [.slice A44 n44 c44,I0] rfl ⟨rfl,rfl,trivial⟩ ?_)))
   exact⟨_,rfl,⟨_,_,rfl,⟨_,_,_,rfl,j44,o44⟩,rfl⟩,hw4⟩
theorem V2 {w:a6}(hb:b≤w.heap.size)(hx:Wi w A m c X)(hm:m≤2097152)(hn:n≤1048576):aO aF 176 #[.slice A m c,.int .i64 n] w (Gv w (T2 (WR b (X*2^n)) (Is (.int .i64 0)))):=by
 obtain⟨xs,h1,rfl⟩:=hx
 exact (V3 h1 hm hn).mono (Gv.imp (T2.imp (WR.imp hb) Is.imp))
end
section
open Go.RowKit
open Ieee
def cY (b:Nat):Bool:=decide (b/9223372036854775808=1)
def gC (b:Nat):Nat:=b/4503599627370496%2048
def pm (b:Nat):Nat:=if gC b=0 then b%4503599627370496 else b%4503599627370496+4503599627370496
def pe (b:Nat):Nat:=gC b-1
theorem zE (b:Nat):gC b≤2047:=by unfold gC;omega
theorem qU:fin b↔gC b≠2047:=by
 unfold fin mg gC;omega
theorem jD (b:Nat):pm b<9007199254740992:=by unfold pm;split <;> omega
theorem qI (h:fin b):pe b≤2045:=by have:=qU.1 h;have:=zE b;unfold pe;omega
theorem lA (b:Nat):rv (mg b)=pm b*2^pe b:=by
 unfold pm pe
 have e1:mg b/4503599627370496=gC b:=by unfold mg gC;omega
 have e2:mg b%4503599627370496=b%4503599627370496:=by unfold mg;omega
 by_cases h:gC b=0
 ·rw [if_pos h,h]
  have h1:mg b<4503599627370496:=by omega
  rw [xW h1,Nat.pow_zero,cI,←e2,fG h1]
 ·rw [if_neg h]
  unfold rv
  rw [if_neg (by omega),e1,e2,Nat.add_comm]
def fv (b:Nat):Int:=sg (cY b) (rv (mg b))
theorem IC (hb:b<18446744073709551616)(h:fin b):double.read b= .number (cY b) (pm b) ((pe b:Int)+ -1074):=by
 have hs:(b/9223372036854775808%2==1)=cY b:=by
  unfold cY
  have:b/9223372036854775808%2=b/9223372036854775808:=by omega
  rw [this];rfl
 have h0:=h
 unfold fin mg at h
 unfold Format.read
 simp only [tR,vZ,vY,M4,hs]
 have e1:b%9223372036854775808/4503599627370496=gC b:=by unfold gC;omega
 unfold pm pe
 by_cases h1:b%9223372036854775808<4503599627370496
 ·have hf:gC b=0:=by omega
  rw [if_pos h1,if_pos hf,hf]
  have:b%9223372036854775808=b%4503599627370496:=by omega
  rw [this];rfl
 ·have hf:gC b≠0:=by omega
  rw [if_neg h1,if_pos h,if_neg hf,e1]
  have:b%9223372036854775808%4503599627370496=b%4503599627370496:=by omega
  rw [this,Nat.add_comm,Int.add_comm]
theorem rJ (s:Bool)(m k:Nat):sg s (m*k)=sg s m*(k:Int):=by
 cases s
 ·rw [k7,k7,kN]
 ·rw [l9,l9,kN,Int.neg_mul]
theorem R3 (s:Bool)(m k:Nat):Ieee.signed s m k=sg s (m*2^k):=by
 unfold Ieee.signed
 rw [Nat.shiftLeft_eq]
 cases s
 ·rw [k7];rfl
 ·rw [l9];rfl
theorem a0Q {b:Int}(hk:0<k):compare (a*(k:Int)) (b*(k:Int))=compare a b:=by
 have hp:(0:Int)<(k:Int):=by omega
 rcases Int.lt_trichotomy a b with h | h | h
 ·rw [Int.compare_eq_lt.2 h,Int.compare_eq_lt.2 (Int.mul_lt_mul_of_pos_right h hp)]
 ·subst h;rw [Int.compare_eq_eq.2 rfl,Int.compare_eq_eq.2 rfl]
 ·rw [Int.compare_eq_gt.2 h,Int.compare_eq_gt.2 (Int.mul_lt_mul_of_pos_right h hp)]
theorem yG {y:Nat}(hx:x<18446744073709551616)(hy:y<18446744073709551616)(h:fin x)(h':fin y):double.order x y=some (compare (fv x) (fv y)):=by
 unfold Format.order
 rw [IC hx h,IC hy h']
 simp only [Datum.order,R3]
 congr 1
 unfold fv
 rw [lA,lA]
 obtain⟨p,hp⟩:∃p,min (pe x) (pe y)=p:=⟨_,rfl⟩
 have e1:(((pe x:Int)+ -1074)-min ((pe x:Int)+ -1074) ((pe y:Int)+ -1074)).toNat=pe x-p:=by omega
 have e2:(((pe y:Int)+ -1074)-min ((pe x:Int)+ -1074) ((pe y:Int)+ -1074)).toNat=pe y-p:=by omega
 rw [e1,e2]
 have e3:∀q,p≤q→∀s m,sg s (m*2^q)=sg s (m*2^(q-p))*((2^p:Nat):Int):=by
  intro q hq s m
  rw [←rJ,bH,←bX,show q-p+p=q by omega]
 rw [e3 (pe x) (by omega),e3 (pe y) (by omega),a0Q (dW p)]
def uM:Nat→Nat→Nat
 | 0,_=>0
 | f+1,m=>if m%2=0 then uM f (m/2)+1 else 0
def tz (m:Nat):Nat:=uM 64 m
def od (m:Nat):Nat:=m/2^tz m
theorem FR:∀(f w j:Nat),w%2=1→j<f→uM f (w*2^j)=j
 | 0,_,_,_,h=>absurd h (Nat.not_lt_zero _)
 | f+1,w,0,hw,_=>by
  unfold uM
  rw [Nat.pow_zero,cI,if_neg (by omega)]
 | f+1,w,j+1,hw,h=>by
  unfold uM
  have e:w*2^(j+1)=2*(w*2^j):=by rw [cB,←bH,bY]
  rw [e,if_pos (Nat.mul_mod_right _ _),Nat.mul_div_cancel_left _ (by decide),FR f w j hw (by omega)]
theorem BG {w:Nat}(h:m=w*2^j)(hw:w%2=1)(hm:m<9007199254740992):tz m=j∧od m=w:=by
 have hj:j<64:=by
  have h1:2^j≤m:=by rw [h];exact Nat.le_mul_of_pos_left _ (by omega)
  have h2:2^j<2^53:=iH h1 hm
  have:=(sI (a:=2) (by omega)).1 h2
  omega
 have e:tz m=j:=by unfold tz;rw [h];exact FR 64 w j hw hj
 refine⟨e,?_⟩
 unfold od
 rw [e,h,nG _ (dW j)]
theorem rL (h0:m≠0)(hm:m<9007199254740992):m=od m*2^tz m∧od m%2=1∧tz m≤53:=by
 have key:∀n,∀m,m≤n→m≠0→∃w j,m=w*2^j∧w%2=1:=by
  intro n
  induction n with
  | zero=>intro m h1 h2;omega
  | succ n ih=>
   intro m h1 h2
   by_cases hp:m%2=1
   ·exact⟨m,0,by rw [Nat.pow_zero,cI],hp⟩
   ·obtain⟨w,j,e,hw⟩:=ih (m/2) (by omega) (by omega)
    refine⟨w,j+1,?_,hw⟩
    rw [cB,←bH,←e];omega
 obtain⟨w,j,e,hw⟩:=key m m (b8 _) h0
 obtain⟨e1,e2⟩:=BG e hw hm
 refine⟨by rw [e1,e2];exact e,by rw [e2];exact hw,?_⟩
 rw [e1]
 have h1:2^j≤m:=by rw [e];exact Nat.le_mul_of_pos_left _ (by omega)
 have h2:2^j<2^53:=iH h1 hm
 have:=(sI (a:=2) (by omega)).1 h2
 omega
theorem oX:od 0=0:=by unfold od;exact Nat.zero_div _
def eL (b:Nat):Int:=sg (cY b) (od (pm b))
def eX (b:Nat):Int:=if pm b=0 then 0 else (pe b:Int)+ -1074+(tz (pm b):Int)
def iV (b:Nat):Int:=sg (cY b) (rv (mg b)/2^bM)
theorem mP (s:Bool):sg s 0=0:=by cases s <;> rfl
theorem P8 (h:eX b=(k:Int)):sg (cY b) (od (pm b)*2^k)=iV b:=by
 unfold iV
 congr 1
 rw [lA]
 unfold eX at h
 by_cases h0:pm b=0
 ·rw [h0,oX,iZ,iZ,Nat.zero_div]
 ·rw [if_neg h0] at h
  obtain⟨e,_,_⟩:=rL h0 (jD b)
  have e2:pm b*2^pe b=od (pm b)*2^k*2^bM:=by
   have e3:(2:Nat)^tz (pm b)*2^pe b=2^k*2^bM:=by rw [←bX,←bX];congr 1;have:=i6;omega
   calc pm b*2^pe b=od (pm b)*2^tz (pm b)*2^pe b:=by rw [←e]
    _=od (pm b)*2^k*2^bM:=by rw [bH,e3,←bH]
  rw [e2,nG _ (dW bM)]
theorem P9 (h:eX b= -(k:Int)):sg (cY b) (od (pm b)/2^k)=iV b:=by
 unfold iV
 congr 1
 rw [lA]
 unfold eX at h
 by_cases h0:pm b=0
 ·rw [h0,oX,iZ,Nat.zero_div,Nat.zero_div]
 ·rw [if_neg h0] at h
  obtain⟨e,_,_⟩:=rL h0 (jD b)
  have e2:pm b*2^pe b=od (pm b)*2^(tz (pm b)+pe b):=by
   rw [bX,←bH,←e]
  have e3:(2:Nat)^bM=2^(tz (pm b)+pe b)*2^k:=by rw [←bX];congr 1;have:=i6;omega
  rw [e2,e3,bY (2^(tz (pm b)+pe b)),rA _ _ (dW _)]
theorem GC (h:fin b): -1074≤eX b∧eX b≤1100:=by
 unfold eX
 have:=qI h
 by_cases h0:pm b=0
 ·rw [if_pos h0];omega
 ·rw [if_neg h0];have:=(rL h0 (jD b)).2.2;omega
theorem JE (b:Nat):od (pm b)<9007199254740992:=by
 unfold od;exact iH (fI _ _) (jD b)
theorem ZV (h:eX b=(k:Int)):fv b=sg (cY b) (od (pm b)*2^k)*((2^bM:Nat):Int):=by
 unfold fv
 rw [←rJ,lA]
 refine congrArg (sg (cY b)) ?_
 unfold eX at h
 by_cases h0:pm b=0
 ·rw [h0,oX];simp
 ·rw [if_neg h0] at h
  obtain⟨e,_,_⟩:=rL h0 (jD b)
  have e3:(2:Nat)^tz (pm b)*2^pe b=2^k*2^bM:=by rw [←bX,←bX];congr 1;have:=i6;omega
  calc pm b*2^pe b=od (pm b)*2^tz (pm b)*2^pe b:=by rw [←e]
   _=od (pm b)*2^k*2^bM:=by rw [bH,e3,←bH]
theorem ZY (h:eX b= -(k:Int)):fv b*((2^k:Nat):Int)=sg (cY b) (od (pm b))*((2^bM:Nat):Int):=by
 unfold fv
 rw [←rJ,←rJ,lA]
 refine congrArg (sg (cY b)) ?_
 unfold eX at h
 by_cases h0:pm b=0
 ·rw [h0,oX];simp
 ·rw [if_neg h0] at h
  obtain⟨e,_,_⟩:=rL h0 (jD b)
  have e3:(2:Nat)^tz (pm b)*2^pe b*2^k=2^bM:=by rw [←bX,←bX];congr 1;have:=i6;omega
  calc pm b*2^pe b*2^k=od (pm b)*2^tz (pm b)*2^pe b*2^k:=by rw [←e]
   _=od (pm b)*(2^tz (pm b)*2^pe b*2^k):=by simp only [bH]
   _=_:=by rw [e3]
theorem FO (hx:x≤18446744073709551615)(P:cD)(t:aT)(w:a6):(binOp .and t (.int .u64 (x:Int)) (.int .u64 2047)).run P w= .ok (.int .u64 ((x%2048:Nat):Int)) w:=x9 (x:=x) (d:=11) hx (by decide) P t w
theorem FN (hx:x≤18446744073709551615)(P:cD)(t:aT)(w:a6):(binOp .and t (.int .u64 (x:Int)) (.int .u64 4503599627370495)).run P w= .ok (.int .u64 ((x%4503599627370496:Nat):Int)) w:=x9 (x:=x) (d:=52) hx (by decide) P t w
theorem PZ (hx:x<4503599627370496)(P:cD)(t:aT)(w:a6):(binOp .or t (.int .u64 (x:Int)) (.int .u64 4503599627370496)).run P w= .ok (.int .u64 ((x+4503599627370496:Nat):Int)) w:=by
 have e:=rH (x:=x) (y:=4503599627370496) (by omega) (by decide) P t w
 have e2:x||| 4503599627370496=x+4503599627370496:=by
  have h:=vG (x:=1) (y:=x) (k:=52) hx
  rw [Nat.or_comm,Nat.one_mul] at h
  rw [Nat.add_comm];exact h
 rw [e2] at e;exact e
theorem FK (P:cD)(t:aT)(w:a6):(binOp .shr t (.int .u64 (x:Int)) (.int .u64 52)).run P w= .ok (.int .u64 ((x/4503599627370496:Nat):Int)) w:=l8 (x:=x) (s:=52) (by decide) P t w
theorem FJ (P:cD)(t:aT)(w:a6):(binOp .shr t (.int .u64 (x:Int)) (.int .u64 63)).run P w= .ok (.int .u64 ((x/9223372036854775808:Nat):Int)) w:=l8 (x:=x) (s:=63) (by decide) P t w
theorem PY (P:cD)(t:aT)(w:a6):(binOp .shr t (.int .u64 (x:Int)) (.int .u64 1)).run P w= .ok (.int .u64 ((x/2:Nat):Int)) w:=l8 (x:=x) (s:=1) (by decide) P t w
theorem MQ (b:Nat):dY .eql ((b/9223372036854775808:Nat):Int) 1=some (cY b):=by
 unfold cY
 by_cases h:b/9223372036854775808=1
 ·rw [h,decide_eq_true rfl];rfl
 ·rw [decide_eq_false h];exact jH (by omega)
theorem AA {w:a6}(s:Bool)(h:m≠0)(hn:n=(wd m).length)(ho:Own w b 65 1 A n c ((wd m).map aW)):Zr w b s A n c (sg s m):=by
 cases s
 ·rw [k7];exact a1E hn ho
 ·rw [l9];exact a1D h hn ho
theorem rQ (h:(wd m).length≤N):ln (sg s m)≤N:=by
 cases s
 ·rw [k7,qQ];exact h
 ·rw [l9,XH,qQ];exact h
theorem a1t {w:a6}(hb0:b≤w.heap.size)(hx:Wi w A m c M)(hm:m≤1073741824)(hn:n≤1048576):aO aF 118 #[.slice A m c,.int .i64 n] w (Gv w (T2 (WR b (M/2^n)) (Is (.int .i64 0)))):=by
 obtain⟨xs,h1,rfl⟩:=hx
 refine (K4 h1 (by omega) (by omega)).mono ?_
 rintro e w' ⟨A,n',cap,rfl,h3,_,h4,h5⟩
 exact⟨_,rfl,⟨_,_,rfl,⟨A,n',cap,rfl,h3.out,h4.mono hb0⟩,rfl⟩,h5⟩
theorem JJ (hb:f<18446744073709551616)(h:fin f):(FloatKind.f64.format.order f 9218868437227405311==some .gt)=false:=by
 show (double.order f 9218868437227405311==some .gt)=false
 rw [yG hb (by decide) h (by decide)]
 have h1:fv f≤fv 9218868437227405311:=by
  have e2:fv 9218868437227405311=(rv 9218868437227405311:Int):=rfl
  have h2:rv (mg f)≤rv 9218868437227405311:=qA (h:=(by unfold fin at h;omega))
  rw [e2]
  unfold fv
  cases cY f
  ·rw [k7];omega
  ·rw [l9];omega
 rcases Int.lt_or_eq_of_le h1 with h | h
 ·rw [Int.compare_eq_lt.2 h];rfl
 ·rw [h,Int.compare_eq_eq.2 rfl];rfl
theorem VX (hb:f<18446744073709551616)(h:fin f):(FloatKind.f64.format.order f f != some .eq)=false:=by
 show (double.order f f != some .eq)=false
 rw [yG hb hb h h,Int.compare_eq_eq.2 rfl];rfl
theorem JL (hb:f<18446744073709551616)(h:fin f):fin (f^^^9223372036854775808)∧f^^^9223372036854775808<18446744073709551616∧fv (f^^^9223372036854775808)= -fv f:=by
 unfold fin at h
 by_cases h1:f<9223372036854775808
 ·rw [B5 h1]
  have e:mg (f+9223372036854775808)=mg f:=by unfold mg;omega
  have s1:cY f=false:=by unfold cY;exact decide_eq_false (by omega)
  have s2:cY (f+9223372036854775808)=true:=by unfold cY;exact decide_eq_true (by omega)
  refine⟨by unfold fin;rw [e];exact h,by omega,?_⟩
  unfold fv
  rw [e,s1,s2,l9,k7]
 ·obtain⟨g,rfl⟩:∃g,f=g+9223372036854775808:=⟨f-9223372036854775808,by omega⟩
  have hg:g<9223372036854775808:=by omega
  have e0:(g+9223372036854775808)^^^9223372036854775808=g:=by
   rw [←B5 hg,Nat.xor_assoc,Nat.xor_self,Nat.xor_zero]
  rw [e0]
  have e:mg (g+9223372036854775808)=mg g:=by unfold mg;omega
  have s1:cY g=false:=by unfold cY;exact decide_eq_false (by omega)
  have s2:cY (g+9223372036854775808)=true:=by unfold cY;exact decide_eq_true (by omega)
  refine⟨by unfold fin;rw [←e];exact h,by omega,?_⟩
  unfold fv
  rw [e,s1,s2,l9,k7,Int.neg_neg]
end
section
open Go.RowKit
set_option maxHeartbeats 4000000 in
theorem LB {w:a6}(hb:f<18446744073709551616)(hf:fin f):
    aO aF 119 #[.float .f64 f] w (Gv w (Is (.tuple #[.bool (cY f),.int .u64 ((pm f:Nat):Int),.int .i64 ((pe f:Int)+ -1074),.bool true]))):=by
 have hfd:=qU.1 hf
 refine bK Tryz.func119 rfl (n:=30) rfl (bq rfl) (args:= [.float .f64 f]) (bE [(0,.float .f64 f)] ⟨rfl,trivial⟩ (sr (mv 4 rfl (a0 (sr (mv 1 rfl (pu (v:= .int .u64 f) rfl (mv 1 rfl (a0 (sr (mv 1 rfl (bS rfl rfl rfl (r:= .int .u64 ((f/4503599627370496:Nat):Int)) rfl (fun w=>FK (x:=f) _ _ w) (bS rfl rfl rfl (r:= .int .u64 (((f/4503599627370496)%2048:Nat):Int)) rfl (fun w=>FO (x:=f/4503599627370496) (by omega) _ _ w) ?_)))))))))))))
 refine bD rfl rfl (v:= .int .i64 (IntKind.i64.wrap (((f/4503599627370496)%2048:Nat):Int))) (v':= .int .i64 (((f/4503599627370496)%2048:Nat):Int)) (lS (by first | omega | exact (by omega))) (mv 1 rfl (a0 (sr (mv 1 rfl (bS rfl rfl rfl (r:= .int .u64 ((f%4503599627370496:Nat):Int)) rfl (fun w=>FN (x:=f) (by omega) _ _ w) (mv 1 rfl (a0 (aA (aA ?_)))))))))
 have hfl:f/4503599627370496%2048=gC f:=rfl
 have hfle:=zE f
 refine a7 (mv 1 rfl (aB rfl rfl rfl false (dC (a:=(f/4503599627370496)%2048) (b:=2047) rfl rfl) (a0 (aI rfl (aN (aD (aA (aA ?_))))))))
 by_cases hf0:(f/4503599627370496)%2048>0
 · 
  refine a7 (mv 1 rfl (aB rfl rfl rfl true (dJ (a:=(f/4503599627370496)%2048) (b:=0) rfl rfl) (a0 (aP rfl (sr (mv 1 rfl (bS rfl rfl rfl (r:= .int .u64 (((f%4503599627370496)+4503599627370496:Nat):Int)) rfl (fun w=>PZ (x:=f%4503599627370496) (by omega) _ _ w) (mv 1 rfl (a0 (a7 (mv 1 rfl (aE rfl rfl rfl ((((f/4503599627370496)%2048)-1:Nat):Int) (eR (a:=(f/4503599627370496)%2048) (b:=1) rfl rfl) (mv 1 rfl ?_)))))))))))))
  refine a0 (sr (mv 1 rfl (bS rfl rfl rfl (r:= .int .u64 ((f/9223372036854775808:Nat):Int)) rfl (fun w=>FJ (x:=f) _ _ w) (aB rfl rfl rfl (cY f) (MQ f) (mv 2 rfl (aE rfl rfl rfl (((((f/4503599627370496)%2048)-1:Nat):Int)+ -1074) (lJ (h:=rfl)) (mv 4 rfl (a0 (aM (aL [.bool (cY f),.int .u64 (((f%4503599627370496)+4503599627370496:Nat):Int),.int .i64 (((((f/4503599627370496)%2048)-1:Nat):Int)+ -1074),.bool true] rfl ⟨rfl,rfl,rfl,rfl,trivial⟩ ?_))))))))))
  have em:pm f=(f%4503599627370496)+4503599627370496:=by unfold pm;rw [if_neg (by omega)]
  have ee:((pe f:Nat):Int)=((((f/4503599627370496)%2048)-1:Nat):Int):=by unfold pe;omega
  rw [em,ee]
  exact⟨_,rfl,rfl,(Ext.refl w)⟩
 · 
  refine a7 (mv 1 rfl (aB rfl rfl rfl false (d6 (a:=(f/4503599627370496)%2048) (b:=0) rfl rfl) (a0 (aI rfl (aN (aD (sr (mv 1 rfl (bS rfl rfl rfl (r:= .int .u64 ((f/9223372036854775808:Nat):Int)) rfl (fun w=>FJ (x:=f) _ _ w) (aB rfl rfl rfl (cY f) (MQ f) (mv 2 rfl (aE rfl rfl rfl ((((f/4503599627370496)%2048:Nat):Int)+ -1074) (lJ (h:=rfl)) (mv 1 rfl ?_)))))))))))))
  refine mv 3 rfl (a0 (aM (aL [.bool (cY f),.int .u64 ((f%4503599627370496:Nat):Int),.int .i64 ((((f/4503599627370496)%2048:Nat):Int)+ -1074),.bool true] rfl ⟨rfl,rfl,rfl,rfl,trivial⟩ ?_)))
  have em:pm f=f%4503599627370496:=by unfold pm;rw [if_pos (by omega)]
  have ee:((pe f:Nat):Int)=(((f/4503599627370496)%2048:Nat):Int):=by unfold pe;omega
  rw [em,ee]
  exact⟨_,rfl,rfl,(Ext.refl w)⟩
set_option maxHeartbeats 4000000 in
theorem LA {w:a6}(hb:f<18446744073709551616)(hf:¬fin f):
    aO aF 119 #[.float .f64 f] w (Gv w (Is (.tuple #[.bool false,.int .u64 0,.int .i64 0,.bool false]))):=by
 have hfd:=Classical.not_not.1 (fun h=>hf (qU.2 h))
 refine bK Tryz.func119 rfl (n:=30) rfl (bq rfl) (args:= [.float .f64 f]) (bE [(0,.float .f64 f)] ⟨rfl,trivial⟩ (sr (mv 4 rfl (a0 (sr (mv 1 rfl (pu (v:= .int .u64 f) rfl (mv 1 rfl (a0 (sr (mv 1 rfl (bS rfl rfl rfl (r:= .int .u64 ((f/4503599627370496:Nat):Int)) rfl (fun w=>FK (x:=f) _ _ w) (bS rfl rfl rfl (r:= .int .u64 (((f/4503599627370496)%2048:Nat):Int)) rfl (fun w=>FO (x:=f/4503599627370496) (by omega) _ _ w) ?_)))))))))))))
 refine bD rfl rfl (v:= .int .i64 (IntKind.i64.wrap (((f/4503599627370496)%2048:Nat):Int))) (v':= .int .i64 (((f/4503599627370496)%2048:Nat):Int)) (lS (by first | omega | exact (by omega))) (mv 1 rfl (a0 (sr (mv 1 rfl (bS rfl rfl rfl (r:= .int .u64 ((f%4503599627370496:Nat):Int)) rfl (fun w=>FN (x:=f) (by omega) _ _ w) (mv 1 rfl (a0 (aA (aA ?_)))))))))
 have hfl:f/4503599627370496%2048=gC f:=rfl
 have hfle:=zE f
 refine a7 (mv 1 rfl (aB rfl rfl rfl true (dA (a:=(f/4503599627370496)%2048) (b:=2047) rfl rfl) (a0 (aP rfl (sr (mv 4 rfl (a0 (aM (bL (aL [F0,.int .u64 0,I0,F0] rfl ⟨rfl,rfl,rfl,rfl,trivial⟩ ?_))))))))))
 exact⟨_,rfl,rfl,(Ext.refl w)⟩
theorem KR {w:Nat}(h:m=w*2^j)(he:w%2=0):m=w/2*2^(j+1):=by
 rw [h,cB,bY (2^j),←bH]
 congr 1;have:=i6;omega
theorem KS {w:Nat}(h:m=w*2^j)(h0:w≠0)(hm:m<9007199254740992):j≤53:=by
 have h1:2^j≤m:=by rw [h];exact Nat.le_mul_of_pos_left _ (by omega)
 have h2:2^j<2^53:=iH h1 hm
 have:=(sI (a:=2) (by omega)).1 h2
 omega
theorem rM (f:Nat):(wd (od (pm f))).length≤1:=fY (by have:=JE f;rw [cF,Nat.pow_one];omega)
set_option maxHeartbeats 4000000 in
theorem D2 {w:a6}(hb0:b≤w.heap.size)(hb:f<18446744073709551616)(hf:fin f):
    aO aF 35 #[.float .f64 f] w (Gv w (T3 (ZR b (eL f)) (Is (.int .i64 (eX f))) (Is (.int .i64 0)))):=by
 refine bK Tryz.func35 rfl (n:=34) rfl (bq rfl) (args:= [.float .f64 f]) (bE [(0,.float .f64 f)] ⟨rfl,trivial⟩ (sr (al [F0,S0] (Ext.refl w) (fun _=>by kernel_rfl) rfl fun g1 v2 hb4 ge5 e3 hw1=>(mv 2 rfl (a0 (sr (mv 1 rfl (cl (vs:= [.float .f64 f]) hw1 (LB hb hf) rfl (by kernel_rfl) fun xr8 v6 r8 e7 hw2=>?_))))))))
 obtain rfl:=r8
 refine mv 1 rfl (pu (v:= .bool (cY f)) rfl (pu (v:= .int .u64 ((pm f:Nat):Int)) rfl (pu (v:= .int .i64 ((pe f:Int)+ -1074)) rfl (pu (v:= .bool true) rfl (mv 4 rfl (a0 (aA (sr (mv 1 rfl (pu (v:= .bool false) rfl (a0 (aI rfl (aN ?_)))))))))))))
 refine aD (aA (aA ?_))
 have hpl:=jD f
 have hpe:=qI hf
 by_cases hp0:pm f=0
 · 
  refine a7 (mv 1 rfl (aB rfl rfl rfl true (dA (a:=pm f) (b:=0) rfl rfl) (a0 (aP rfl (sr (pu (v:= .agg #[F0,S0]) rfl ?_))))))
  have hb10:=(hb4.ext e7)
  refine so bO hb10 [F0,S0] hw2 ge5 rfl rfl rfl rfl fun v9 hb11 u12 hw3=>(mv 2 rfl (a0 (aM (bL (aL [.agg #[F0,S0],I0,I0] rfl ⟨⟨_,rfl,gB bO hb11 [F0,S0] rfl (bq rfl) rfl⟩,rfl,rfl,trivial⟩ ?_)))))
  have e1:eL f=0:=by unfold eL;rw [hp0,oX,mP]
  have e2:eX f=0:=by unfold eX;rw [if_pos hp0]
  rw [e1,e2]
  exact⟨_,rfl,⟨_,_,_,rfl,⟨_,_,_,_,rfl,Zr.zero⟩,rfl,rfl⟩,hw3⟩
 · 
  refine a7 (mv 1 rfl (aB rfl rfl rfl false (dC (a:=pm f) (b:=0) rfl rfl) (a0 (aI rfl (aN (aD (aA (bG ?_))))))))
  refine d4 (T:=a6×Nat×Nat×Int)
   (fun⟨wr,ww,j,kk⟩=> [(2,.pointer (some ⟨g1,0,none⟩)),(5,.bool (cY f)),(6,.int .u64 ww),(7,.int .i64 kk)])
   (fun⟨wr,ww,j,kk⟩=>wr)
   (fun⟨wr,ww,j,kk⟩=>(Ext w wr)∧(Bk wr g1 24 [F0,S0])∧(pm f=ww*2^j)∧(kk=(pe f:Int)+ -1074+(j:Int)))
   (fun⟨wr,ww,j,kk⟩=>ww)
   (⟨v6,_,0,_⟩:a6×Nat×Nat×Int) ⟨hw2,(hb4.ext e7),(by rw [Nat.pow_zero,cI]),(by omega)⟩ rfl ⟨rfl,rfl,rfl,rfl,trivial⟩ ?_
  rintro⟨wr,ww,j,kk⟩ ⟨hw1,hB,hmw,hkk⟩
  refine cC [(2,.pointer (some ⟨g1,0,none⟩)),(5,.bool (cY f)),(6,.int .u64 ww),(7,.int .i64 kk)] wr rfl ⟨rfl,rfl,rfl,rfl,trivial⟩ (aA (aA ?_))
  have hww:ww≠0:=fun e=>by rw [e,iZ] at hmw;omega
  have hwl:ww≤pm f:=by rw [hmw];exact Nat.le_mul_of_pos_right _ (dW j)
  by_cases hev:ww%2=0
  · 
   refine a7 (mv 1 rfl (bS rfl rfl rfl (r:= .int .u64 ((ww%2:Nat):Int)) rfl (fun w=>sS (x:=ww) (by first | omega | exact (by omega)) _ _ w) (aB rfl rfl rfl true (dA (a:=ww%2) (b:=0) rfl rfl) (a0 (aP rfl (aN (aD (bG (sr (mv 1 rfl (bS rfl rfl rfl (r:= .int .u64 ((ww/2:Nat):Int)) rfl (fun w=>PY (x:=ww) _ _ w) (mv 1 rfl (aU ?_)))))))))))))
   refine aD ?_
   have hj53:tz (pm f)≤53:=(rL hp0 hpl).2.2
   have hjb:=KS hmw hww hpl
   refine a7 (mv 1 rfl (aE rfl rfl rfl (kk+1) (lJ (h:=rfl)) (mv 1 rfl (aU (cA (cH (⟨wr,_,j+1,_⟩:a6×Nat×Nat×Int) ⟨hw1,hB,(KR hmw hev),(by omega)⟩ (show ww/2<ww by omega) rfl ⟨rfl,rfl,rfl,rfl,trivial⟩))))))
  · 
   obtain⟨htz,hod⟩:=BG hmw (by omega) hpl
   refine a7 (mv 1 rfl (bS rfl rfl rfl (r:= .int .u64 ((ww%2:Nat):Int)) rfl (fun w=>sS (x:=ww) (by first | omega | exact (by omega)) _ _ w) (aB rfl rfl rfl false (dC (a:=ww%2) (b:=0) rfl rfl) (a0 (aI rfl (cR (cN (cP (cQ (aD (sr (mv 2 rfl (dQ rfl rfl (k:=1) (e:=65) [.int .u64 ww] (fun _=>by kernel_rfl) fun g14 v15 nb16=>?_)))))))))))))
   have o17:=O1.mk_ (x:=ww) (b:=w.heap.size) nb16 hw1.size
   have e18:=nb16.ext
   have hw2:=hw1.trans e18
   have o20:=iK o17 (show ww≤18446744073709551615 by omega) hww
   have j19:=hZ (show ww≤18446744073709551615 by omega) hww
   have z21:=AA (cY f) hww j19 o20
   refine pu (v:= .agg #[.bool (cY f),.slice (some ⟨g14,0,none⟩) 1 1]) rfl (mv 1 rfl ?_)
   have hb23:=(hB.ext e18)
   refine so bO hb23 [.bool (cY f),.slice (some ⟨g14,0,none⟩) 1 1] hw2 ge5 rfl rfl rfl rfl fun v22 hb24 u25 hw3=>(mv 2 rfl (a0 (aM (aL [.agg #[.bool (cY f),.slice (some ⟨g14,0,none⟩) 1 1],.int .i64 kk,I0] rfl ⟨⟨_,rfl,gB bO hb24 [.bool (cY f),.slice (some ⟨g14,0,none⟩) 1 1] rfl (bq rfl) rfl⟩,rfl,rfl,trivial⟩ ?_))))
   have e1:eL f=sg (cY f) ww:=by unfold eL;rw [hod]
   have e2:eX f=kk:=by unfold eX;rw [if_neg hp0,htz,hkk]
   rw [e1,e2]
   exact⟨_,rfl,⟨_,_,_,rfl,⟨_,_,_,_,rfl,((z21.updT hb23 u25)).mono hb0⟩,rfl,rfl⟩,hw3⟩
set_option maxHeartbeats 4000000 in
theorem LG {w:a6}(hb0:b≤w.heap.size)(hb:f<18446744073709551616)(hf:¬fin f):
    aO aF 35 #[.float .f64 f] w (Gv w (T3 (ZR b 0) (Is (.int .i64 0)) (Is (.int .i64 3)))):=by
 refine bK Tryz.func35 rfl (n:=34) rfl (bq rfl) (args:= [.float .f64 f]) (bE [(0,.float .f64 f)] ⟨rfl,trivial⟩ (sr (al [F0,S0] (Ext.refl w) (fun _=>by kernel_rfl) rfl fun g1 v2 hb4 ge5 e3 hw1=>(mv 2 rfl (a0 (sr (mv 1 rfl (cl (vs:= [.float .f64 f]) hw1 (LA hb hf) rfl (by kernel_rfl) fun xr8 v6 r8 e7 hw2=>?_))))))))
 obtain rfl:=r8
 refine mv 1 rfl (pu (v:= .bool false) rfl (pu (v:= .int .u64 0) rfl (pu (v:= .int .i64 0) rfl (pu (v:= .bool false) rfl (mv 4 rfl (a0 (aA (sr (mv 1 rfl (pu (v:= .bool true) rfl (a0 (aP rfl (aA ?_)))))))))))))
 refine a7 (pu (v:= .agg #[F0,S0]) rfl ?_)
 have hb10:=(hb4.ext e7)
 refine so bO hb10 [F0,S0] hw2 ge5 rfl rfl rfl rfl fun v9 hb11 u12 hw3=>(mv 2 rfl (a0 (aM (bL (aL [.agg #[F0,S0],I0,.int .i64 3] rfl ⟨⟨_,rfl,gB bO hb11 [F0,S0] rfl (bq rfl) rfl⟩,rfl,rfl,trivial⟩ ?_)))))
 exact⟨_,rfl,⟨_,_,_,rfl,⟨_,_,_,_,rfl,Zr.zero⟩,rfl,rfl⟩,hw3⟩
theorem p8 (s:Bool)(m:Nat):Int.natAbs (sg s m)=m:=by
 cases s
 ·rw [k7];rfl
 ·rw [l9,Int.natAbs_neg];rfl
theorem BM {w:a6}(h:Zr w b s A n c (eL f)):sg s (od (pm f))=eL f∧(pm f≠0→s=cY f):=by
 obtain⟨hs,_,_⟩:=h
 unfold eL at hs⊢
 by_cases h0:od (pm f)=0
 ·refine⟨by rw [h0,mP,mP],fun hp=>?_⟩
  have:=(rL hp (jD f)).2.1
  omega
 ·have e:s=cY f:=by
   rw [hs]
   cases cY f
   ·rw [k7];exact decide_eq_false (by omega)
   ·rw [l9];exact decide_eq_true (by omega)
  exact⟨by rw [e],fun _=>e⟩
theorem PD {w:a6}(h:Zr w b s A n c (eL f))(ha:Int.natAbs (eL f)=od (pm f))(hk:eX f=(k:Int)):sg s (Int.natAbs (eL f)*2^k)=iV f:=by
 rw [ha,←P8 hk]
 by_cases h0:pm f=0
 ·rw [h0,oX,iZ,mP,mP]
 ·rw [(BM h).2 h0]
theorem PE {w:a6}(h:Zr w b s A n c (eL f))(ha:Int.natAbs (eL f)=od (pm f))(hk:eX f= -(k:Int)):sg s (Int.natAbs (eL f)/2^k)=iV f:=by
 rw [ha,←P9 hk]
 by_cases h0:pm f=0
 ·rw [h0,oX,Nat.zero_div,mP,mP]
 ·rw [(BM h).2 h0]
set_option maxHeartbeats 4000000 in
theorem ZD {w:a6}(hb0:b≤w.heap.size)(hb:f<18446744073709551616)(hf:fin f):
    aO aF 34 #[.float .f64 f] w (Gv w (T2 (ZR b (iV f)) (Is (.int .i64 0)))):=by
 refine bK Tryz.func34 rfl (n:=35) rfl (bq rfl) (args:= [.float .f64 f]) (bE [(0,.float .f64 f)] ⟨rfl,trivial⟩ (sr (al [F0,S0] (Ext.refl w) (fun _=>by kernel_rfl) rfl fun g1 v2 hb4 ge5 e3 hw1=>(mv 1 rfl (a0 (sr (mv 1 rfl (cl (vs:= [.float .f64 f]) hw1 (D2 hw1.size hb hf) rfl (by kernel_rfl) fun xr8 v6 r8 e7 hw2=>?_))))))))
 obtain⟨_,_,_,rfl,⟨s10,A10,n10,c10,rfl,z10⟩,rfl,rfl⟩:=r8
 refine mv 1 rfl (pu (v:= .agg #[.bool s10,.slice A10 n10 c10]) rfl (pu (v:= .int .i64 (eX f)) rfl (pu (v:= .int .i64 0) rfl (kW [F0,S0] hw2 (hb4.ext e7).lt (fun _=>by kernel_rfl) rfl fun g11 v12 hb14 ge15 q16 e13 hw3=>(so bO hb14 [.bool s10,.slice A10 n10 c10] hw3 ge15 rfl rfl rfl rfl fun v17 hb19 u20 hw4=>?_)))))
 have zs22:=((z10.ext e13).updT hb14 u20)
 refine mv 2 rfl (a0 (aA (sr (mv 1 rfl (aB rfl rfl rfl false (by decide) (a0 (aI rfl (aN (aD (aA (aA ?_)))))))))))
 have hab:Int.natAbs (eL f)=od (pm f):=by unfold eL;exact p8 _ _
 have hsb:=GC hf
 by_cases hsp:0≤eX f
 · 
  obtain⟨k,hk⟩:∃k:Nat,eX f=(k:Int):=⟨(eX f).toNat,by omega⟩
  rw [hk]
  refine a7 (mv 1 rfl (aB rfl rfl rfl true (eI (a:=k) (b:=0) rfl rfl) (a0 (aP rfl (a7 (pf g11 1 rfl (aS rfl rfl (aY eM hb19 rfl) (mv 1 rfl (cl (vs:= [.slice A10 n10 c10,.int .i64 k]) hw4 (rW (b:=w.heap.size) hw4.size (by omega) ((z10.ext e13).updT hb14 u20).zi.wi (z10.le (aG (show ln (eL f)≤1 from rQ (rM f)) (by decide)))) rfl (by kernel_rfl) fun xr25 v23 r25 iE hw5=>?_)))))))))
  obtain⟨A26,n26,c26,rfl,j26,o26⟩:=r25
  refine pf g11 1 rfl ?_
  have hb29:=(hb19.ext iE)
  refine eB rfl rfl rfl (fun _=>by kernel_rfl) rfl hb29 (bq rfl) rfl [.bool s10,.slice A26 n26 c26] rfl fun v27 hb28 u30 hs31=>?_
  have hw6:=u30.ext hw5 ge15
  refine a0 (sr (lo bO hb28 [.bool s10,.slice A26 n26 c26] rfl rfl rfl (cl (vs:= [.agg #[.bool s10,.slice A26 n26 c26]]) hw6 (L0 hw6.size (((o26.updT hb29 (by decide) u30)).wi.zi s10) (aG (aG (Nat.le_of_eq j26) (nZ (n:=1) (by rw [hab];exact rM f))) (by decide))) rfl (by kernel_rfl) fun xr34 v32 r34 e33 hw7=>?_)))
  obtain⟨s35,A35,n35,c35,rfl,z35⟩:=r34
  have hb37:=(((((hb4.ext (e7.trans e13)).updN u20 (by omega)).ext iE).updN u30 (by omega)).ext e33)
  refine so bO hb37 [.bool s35,.slice A35 n35 c35] hw7 ge5 rfl rfl rfl rfl fun v36 hb38 u39 hw8=>(mv 1 rfl (a0 (aM (aL [.agg #[.bool s35,.slice A35 n35 c35],I0] rfl ⟨⟨_,rfl,gB bO hb38 [.bool s35,.slice A35 n35 c35] rfl (bq rfl) rfl⟩,rfl,trivial⟩ ?_))))
  skip
  exact⟨_,rfl,⟨_,_,rfl,⟨_,_,_,_,rfl,(((z35.updT hb37 u39)).cast ((PD zs22 hab hk))).mono hb0⟩,rfl⟩,hw8⟩
 · 
  obtain⟨k,hk⟩:∃k:Nat,eX f= -(k:Int):=⟨(-eX f).toNat,by omega⟩
  rw [hk]
  refine a7 (mv 1 rfl (aB rfl rfl rfl false (jG) (a0 (aI rfl (a7 (pf g11 1 rfl (aS rfl rfl (aY eM hb19 rfl) (mv 1 rfl (bD rfl rfl (v:= .int .i64 (IntKind.i64.wrap (0- -((k:Nat):Int)))) (v':= .int .i64 k) (oB) (cl (vs:= [.slice A10 n10 c10,.int .i64 k]) hw4 (a1t hw4.size ((z10.ext e13).updT hb14 u20).zi.wi (z10.le (aG (show ln (eL f)≤1 from rQ (rM f)) (by decide))) (by omega)) rfl (by kernel_rfl) fun xr43 v41 r43 e42 hw5=>?_))))))))))
  obtain⟨_,_,rfl,⟨A45,n45,c45,rfl,j45,o45⟩,rfl⟩:=r43
  refine mv 1 rfl (pu (v:= .slice A45 n45 c45) rfl (pu (v:= .int .i64 0) rfl (pf g11 1 rfl ?_)))
  have hb48:=(hb19.ext e42)
  refine eB rfl rfl rfl (fun _=>by kernel_rfl) rfl hb48 (bq rfl) rfl [.bool s10,.slice A45 n45 c45] rfl fun v46 hb47 u49 hs50=>?_
  have hw6:=u49.ext hw5 ge15
  refine a0 (sr (lo bO hb47 [.bool s10,.slice A45 n45 c45] rfl rfl rfl (cl (vs:= [.agg #[.bool s10,.slice A45 n45 c45]]) hw6 (L0 hw6.size (((o45.updT hb48 (by decide) u49)).wi.zi s10) (aG (aG (Nat.le_of_eq j45) (aG (gZ (fI _ _)) (by rw [hab];exact rM f))) (by decide))) rfl (by kernel_rfl) fun xr53 v51 r53 e52 hw7=>?_)))
  obtain⟨s54,A54,n54,c54,rfl,z54⟩:=r53
  have hb56:=(((((hb4.ext (e7.trans e13)).updN u20 (by omega)).ext e42).updN u49 (by omega)).ext e52)
  refine so bO hb56 [.bool s54,.slice A54 n54 c54] hw7 ge5 rfl rfl rfl rfl fun v55 hb57 u58 hw8=>(mv 1 rfl (a0 (aM (aL [.agg #[.bool s54,.slice A54 n54 c54],I0] rfl ⟨⟨_,rfl,gB bO hb57 [.bool s54,.slice A54 n54 c54] rfl (bq rfl) rfl⟩,rfl,trivial⟩ ?_))))
  skip
  exact⟨_,rfl,⟨_,_,rfl,⟨_,_,_,_,rfl,(((z54.updT hb56 u58)).cast ((PE zs22 hab hk))).mono hb0⟩,rfl⟩,hw8⟩
set_option maxHeartbeats 4000000 in
theorem ZB {w:a6}(hb0:b≤w.heap.size)(hb:f<18446744073709551616)(hf:¬fin f):
    aO aF 34 #[.float .f64 f] w (Gv w (T2 (ZR b 0) (Is (.int .i64 3)))):=by
 refine bK Tryz.func34 rfl (n:=35) rfl (bq rfl) (args:= [.float .f64 f]) (bE [(0,.float .f64 f)] ⟨rfl,trivial⟩ (sr (al [F0,S0] (Ext.refl w) (fun _=>by kernel_rfl) rfl fun g1 v2 hb4 ge5 e3 hw1=>(mv 1 rfl (a0 (sr (mv 1 rfl (cl (vs:= [.float .f64 f]) hw1 (LG hw1.size hb hf) rfl (by kernel_rfl) fun xr8 v6 r8 e7 hw2=>?_))))))))
 obtain⟨_,_,_,rfl,⟨s10,A10,n10,c10,rfl,z10⟩,rfl,rfl⟩:=r8
 refine mv 1 rfl (pu (v:= .agg #[.bool s10,.slice A10 n10 c10]) rfl (pu (v:= .int .i64 0) rfl (pu (v:= .int .i64 3) rfl (kW [F0,S0] hw2 (hb4.ext e7).lt (fun _=>by kernel_rfl) rfl fun g11 v12 hb14 ge15 q16 e13 hw3=>(so bO hb14 [.bool s10,.slice A10 n10 c10] hw3 ge15 rfl rfl rfl rfl fun v17 hb19 u20 hw4=>(mv 2 rfl (a0 (aA (sr (mv 1 rfl (aB rfl rfl rfl true (by decide) (a0 (aP rfl ?_)))))))))))))
 refine sr (pu (v:= .agg #[F0,S0]) rfl (mv 1 rfl ?_))
 have hb23:=((hb4.ext (e7.trans e13)).updN u20 (by omega))
 refine so bO hb23 [F0,S0] hw4 ge5 rfl rfl rfl rfl fun v22 hb24 u25 hw5=>(mv 1 rfl (a0 (aM (bL (aL [.agg #[F0,S0],.int .i64 3] rfl ⟨⟨_,rfl,gB bO hb24 [F0,S0] rfl (bq rfl) rfl⟩,rfl,trivial⟩ ?_)))))
 exact⟨_,rfl,⟨_,_,rfl,⟨_,_,_,_,rfl,Zr.zero⟩,rfl⟩,hw5⟩
end
section
open Go.RowKit
open Ieee
abbrev iU (b:Nat):aH:= .float .f64 b
theorem X8 (xs:List Nat)(i x:Nat):(xs.map iU).set i (.float .f64 x)=(xs.set i x).map iU:=by rw [List.map_set]
theorem T7 (n:Nat):bP n (Value.float .f64 0)=(bP n 0).map iU:=by rw [sM]
structure Rf (w:a6)(A:Option aC)(n cap:Nat)(xs:List Nat):Prop where
 rv:Rv w 1 A n cap (xs.map iU)
 wf:∀x,x∈xs→x<18446744073709551616
theorem Rf.ext {w w':a6}(h:Rf w A n cap xs)(e:Ext w w'):Rf w' A n cap xs:=⟨h.rv.ext e,h.wf⟩
theorem Rf.len {w:a6}(h:Rf w A n cap xs):xs.length=n:=by simpa using h.rv.len
theorem Rf.at {w:a6}(h:Rf w A n c xs)(hi:i<n):
  ∃p,A.map (·.add (i*1))=some p∧w.cell? p=some (.float .f64 (xs.getD i 0))∧xs.getD i 0<18446744073709551616:=by
 obtain⟨a,ha,hc⟩:=h.rv.get i (by omega)
 subst ha
 have hl:=h.len
 have e:(xs.map iU).getD i undef= .float .f64 (xs.getD i 0):=by
  simp [bC,cJ (show i<xs.length by omega)]
 have hm:xs.getD i 0∈xs:=by
  rw [bC,cJ (show i<xs.length by omega)];exact mI _
 exact⟨a.add i,by rw [cI];rfl,by rw [←e];exact hc,h.wf _ hm⟩
theorem Rf.updL {w w':a6}(h:Rf w A n c xs)(e:Upd g w w')(hne:0<c→∀a,A=some a→a.block≠g):Rf w' A n c xs:=
 ⟨⟨h.rv.len,h.rv.le,h.rv.max,fun i hi=>by
  obtain⟨a,ha,hc⟩:=h.rv.get i hi
  exact⟨a,ha,e.cell hc (by rw [pJ];exact hne (by have:=h.rv.le;omega) a ha)⟩,fun a ha hc=>dF (h.rv.blk a ha hc) e.size⟩,h.wf⟩
theorem Bk.rf0 {w:a6}{t:aT}(h:Bk w g t (l.map iU))(hw:∀x,x∈l→x<18446744073709551616)(hl:l.length=N)(hN:N≤9223372036854775807):Rf w (some ⟨g,0,none⟩) N N l:=
 ⟨(by have h1:=Own.mk_ (n:=N) (cap:=N) (base:=0) (s:=1) (bW _) h (b8 _) (by rw [eY];omega) (by rw [List.length_map,cI];exact hl) (by rw [cI,List.take_of_length_le (by rw [List.length_map];omega)]);exact h1.rv),hw⟩
theorem q6 (w:a6):(sizeOf 73).run aF w= .ok 1 w:=by kernel_rfl
theorem E2 (w:a6):(isAgg 73).run aF w= .ok false w:=by kernel_rfl
theorem oP:Tryz.prog.underlying 121=some (.slice 73):=Tryz.underlying121
theorem KQ:(Tryz.prog.info? 73).map (fun i=>(i.zero,i.size,i.bytes))=some (some (.float .f64 0),1,8):=by kernel_rfl
def iJ (fs:List Nat):Int:=(fs.map fv).sum
theorem xG (h:i<fs.length):iJ (fs.take (i+1))=iJ (fs.take i)+fv (fs.getD i 0):=by
 unfold iJ
 rw [List.take_add_one,List.map_append,List.sum_append,bC,cJ h]
 simp
theorem zD (h:fin f):(fv f).natAbs≤2^fN:=by
 unfold fv
 rw [p8]
 have h1:rv (mg f)≤rv 9218868437227405312:=qA (h:=(by unfold fin at h;omega))
 rw [GZ] at h1
 omega
theorem tI {k:Nat}(h:z.natAbs≤n*2^fN)(hn:n≤2097153:=by omega):ln z≤34:=by
 show (wd z.natAbs).length≤34
 refine fY (iH h ?_)
 rw [lY,←Nat.pow_mul]
 have h0:64*34=78+fN:=by rw [zF]
 rw [h0,bX]
 exact (Nat.mul_lt_mul_right (dW fN)).2 (iH hn (by decide))
def mF (fs:List Nat):Bool:=fs.all fun f=>decide (fin f)
theorem QO (hf:∀i,i<fs.length→fin (fs.getD i 0)):∀k,(iJ (fs.take k)).natAbs≤k*2^fN:=by
 intro k
 induction k with
 | zero=>simp [iJ]
 | succ k ih=>
  by_cases hk:k<fs.length
  ·rw [xG hk,dX,Nat.one_mul]
   have:=zD (hf k hk)
   omega
  ·rw [List.take_of_length_le (by omega)] at ih⊢
   rw [dX];omega
theorem xH (hf:∀i,i<k→fin (fs.getD i 0))(hk:k≤fs.length:=by omega):(iJ (fs.take k)).natAbs≤k*2^fN:=by
 have:=QO (fs:=fs.take k) (fun i hi=>by
  rw [bJ] at hi
  rw [bC,List.getElem?_take,if_pos (by omega),←bC];exact hf i (by omega)) k
 rwa [List.take_take,Nat.min_self] at this
theorem E1 (h:∀i,i<fs.length→fin (fs.getD i 0)):mF fs=true:=by
 unfold mF
 rw [fU]
 intro x hx
 obtain⟨i,hi,rfl⟩:=List.getElem_of_mem hx
 have:=h i hi
 rw [bC,cJ hi] at this
 exact decide_eq_true this
theorem NB (hi:i<fs.length)(h:¬fin (fs.getD i 0)):mF fs=false:=by
 refine Bool.eq_false_iff.2 fun e=>h ?_
 unfold mF at e
 rw [fU] at e
 have hm:fs.getD i 0∈fs:=by rw [bC,cJ hi];exact mI _
 exact of_decide_eq_true (e _ hm)
def sU (S:Int):Nat:=dV (decide (S<0)) (cU S.natAbs 1)
def iI (fs:List Nat):Nat:=if mF fs then sU (iJ fs) else 0
def kO (fs:List Nat):Int:=if mF fs then 0 else 3
theorem KI:(wd (1*2^bM)).length≤66:=nZ (n:=1) (fY (by decide)) (hk:=(by rw [i6];decide))
theorem xD (h:mF fs=true):iI fs=sU (iJ fs):=if_pos h
theorem xC (h:mF fs=true):kO fs=0:=if_pos h
theorem FX (h:mF fs=false):iI fs=0:=if_neg (by rw [h];decide)
theorem FW (h:mF fs=false):kO fs=3:=if_neg (by rw [h];decide)
theorem FQ:0<1*2^bM:=fS (by decide) (dW _)
theorem JU (X:Nat):cU (X*2^bM) (1*2^bM)=cU X 1:=by
 unfold cU
 rw [WF (X:=X*2^bM) (D:=1*2^bM) (Y:=X) (E:=1) (fS (by decide) (dW _)) (by decide) (by rw [cI,Nat.one_mul])]
def mU (x:Int):Nat:=dV (decide (x<0)) (cU (x.natAbs*2^bM) 1)
def vA (x y:Int):Nat:=dV (decide (x*y<0)) (cU (x.natAbs*2^bM) y.natAbs)
theorem qL (X D:Nat):cU X D≤9218868437227405312:=Nat.min_le_right _ _
theorem MR (x:Int):dY .lss (cW x 0) 0=some (decide (x<0)):=by
 by_cases h:x<0
 ·rw [decide_eq_true h];exact pB (sX.2 h)
 ·rw [decide_eq_false h];exact mB (h:=(by have:=sX (x:=x) (y:=0);omega))
theorem RQ (x y:Int):cW x 0*cW y 0=cW (x*y) 0:=by
 have h:∀z:Int,cW z 0=z.sign:=fun z=>by
  rcases Int.lt_trichotomy z 0 with h | h | h
  ·rw [Int.sign_eq_neg_one_of_neg h];unfold cW;rw [if_pos h]
  ·subst h;rfl
  ·rw [Int.sign_eq_one_of_pos h];unfold cW;rw [if_neg (by omega),if_neg (by omega)]
 rw [h,h,h,Int.sign_mul]
theorem uT {x:Int}(hk:0<k):cW (x*(k:Int)) (y*(k:Int))=cW x y:=by
 have hp:(0:Int)<(k:Int):=by omega
 unfold cW
 have h1:(x*(k:Int)<y*(k:Int))↔x<y:=⟨fun h=>Int.lt_of_mul_lt_mul_right h (Int.le_of_lt hp),fun h=>Int.mul_lt_mul_of_pos_right h hp⟩
 have h2:(x*(k:Int)=y*(k:Int))↔x=y:=⟨fun h=>Int.eq_of_mul_eq_mul_right (by omega) h,fun h=>by rw [h]⟩
 simp only [h1,h2]
theorem a0R {x:Int}(hk:eX f=(k:Int))(hz:z=sg (cY f) (od (pm f)*2^k)):cW x z=cW (x*((2^bM:Nat):Int)) (fv f):=by
 rw [ZV hk,uT (dW bM),hz]
theorem a0T {x:Int}(hk:eX f= -(k:Int)):cW (x*((2^k:Nat):Int)) (eL f)=cW (x*((2^bM:Nat):Int)) (fv f):=by
 have h1:=uT (x:=x*((2^k:Nat):Int)) (y:=eL f) (dW bM)
 have h2:=uT (x:=x*((2^bM:Nat):Int)) (y:=fv f) (dW k)
 rw [←h1,←h2,ZY hk,Int.mul_right_comm]
 rfl
theorem a0S {x:Int}(hf:fin f)(h:1100<bA x.natAbs):cW x 0=cW (x*((2^bM:Nat):Int)) (fv f):=by
 have h1:=zD hf
 have hx0:x.natAbs≠0:=fun e=>by rw [e,kV] at h;omega
 have h2:=lH hx0
 obtain⟨j,hj⟩:∃j,j=1100:=⟨_,rfl⟩
 have h3:(2:Nat)^j≤x.natAbs:=aG (dU (by decide) (by omega)) h2
 have h4:(2:Nat)^fN<x.natAbs*2^bM:=by
  refine dF ?_ (eA _ h3)
  rw [←bX]
  exact Nat.pow_lt_pow_right (by decide) (by rw [zF,i6,hj];decide)
 have e5:(x*((2^bM:Nat):Int)).natAbs=x.natAbs*2^bM:=by rw [Int.natAbs_mul,Int.natAbs_natCast]
 have hp:(0:Int)<((2^bM:Nat):Int):=Int.natCast_pos.2 (dW bM)
 generalize hy:x*((2^bM:Nat):Int)=y at*
 have hs:(x<0→y<0)∧(0<x→0<y):=by
  rw [←hy]
  exact⟨fun h=>Int.mul_neg_of_neg_of_pos h hp,fun h=>Int.mul_pos h hp⟩
 generalize (2:Nat)^fN=M at*
 unfold cW
 rcases Int.lt_trichotomy x 0 with h | h | h
 ·have:=hs.1 h;rw [if_pos h,if_pos (by omega)]
 ·omega
 ·have:=hs.2 h;rw [if_neg (by omega),if_neg (by omega),if_neg (by omega),if_neg (by omega)]
def ZW (b:Nat)(s:Bool)(m:Nat)(v:aH)(w:a6):Prop:=∃A n c,v= .agg #[.bool s,.slice A n c]∧n=(wd m).length∧Own w b 65 1 A n c ((wd m).map aW)
end
section
open Go.RowKit
set_option maxHeartbeats 4000000 in
theorem LI {w:a6}{x:Int}(hx:Zi w s A n cap x)(la:n≤67108864):
    aO aF 109 #[.agg #[.bool s,.slice A n cap]] w (Gv w (Is (.float .f64 (mU x)))):=by
 have Lx:ln x≤67108864:=aG hx.ln la
 refine bK Tryz.func109 rfl (n:=11) rfl (bq rfl) (args:= [.agg #[.bool s,.slice A n cap]]) (bE [(0,.agg #[.bool s,.slice A n cap])] ⟨rfl,trivial⟩ (sr (bx [.bool s,.slice A n cap] (Ext.refl w) rfl rfl rfl fun g1 v2 hb4 ge5 e3 hw1=>(mv 1 rfl (a0 (aA ?_))))))
 refine gR eZ 8 [] [Is (.agg #[.bool s,.slice A n cap]),Is (.int .i64 (cW x 0)),Is (.bool (decide (x<0))),Is (.pointer (some ⟨g1,1,none⟩)),Is (.slice A n cap),WR w.heap.size (1),Is (.float .f64 (cU (Int.natAbs x*2^bM) 1)),Is (.float .f64 (dV (decide (x<0)) (cU (Int.natAbs x*2^bM) 1)))] [[],[0],[1],[],[3],[],[4,5],[2,6]] [[],[0],[0,1],[],[3],[],[0,1,3,4,5],[0,1,2,3,4,5,6],[0,1,2,3,4,5,6,7]] rfl
  (aR rfl rfl (aK rfl rfl ?_) (aR rfl rfl (aK rfl rfl ?_) (aR rfl rfl (aK rfl rfl ?_) (aR rfl rfl (aK rfl rfl ?_) (aR rfl rfl (aK rfl rfl ?_) (aR rfl rfl (aK rfl rfl ?_) (aR rfl rfl (aK rfl rfl ?_) (aR rfl rfl (aK rfl rfl ?_) gP)))))))) ?_
 · 
  exact fun _ e8=>aJ (lo bO (hb4.ext e8) [.bool s,.slice A n cap] rfl rfl rfl (aQ rfl (Ext.refl _) rfl))
 · 
  intro v9 e10
  have hw2:=hw1.trans e10
  refine dk rfl rfl (aJ (cl (vs:= [.agg #[.bool s,.slice A n cap]]) hw2 (o8 (hx.ext hw2) (bQ la rfl)) rfl (by kernel_rfl) fun xr18 v16 r18 e17 hw3=>?_))
  obtain rfl:=r18
  exact aQ rfl e17 rfl
 · 
  exact fun _ _=>dk rfl rfl (aJ (aB rfl rfl rfl (decide (x<0)) (MR x) (aQ rfl (Ext.refl _) rfl)))
 · 
  exact fun _ _=>aJ (pf g1 1 rfl (aQ rfl (Ext.refl _) rfl))
 · 
  exact fun _ e29=>dk rfl rfl (aJ (aS rfl rfl (aY eM (hb4.ext e29) rfl) (aQ rfl (Ext.refl _) rfl)))
 · 
  intro v35 e36
  have hw2:=hw1.trans e36
  refine aJ (dQ rfl rfl (k:=1) (e:=65) [.int .u64 1] (fun _=>by kernel_rfl) fun g37 v38 nb39=>?_)
  have o40:=O1.mk_ (x:=1) (b:=w.heap.size) nb39 hw2.size
  have e41:=nb39.ext
  have hw3:=hw2.trans e41
  have o43:=iK o40 (show 1≤18446744073709551615 by decide) (show 1≠0 by decide)
  have j42:=hZ (show 1≤18446744073709551615 by decide) (show 1≠0 by decide)
  exact aQ rfl e41 ⟨_,_,_,rfl,j42,o43⟩
 · 
  intro v44 iD
  have hw2:=hw1.trans iD
  refine dk rfl rfl (i7 rfl rfl fun x51 y52 h53 e54 f55=>?_)
  obtain⟨A56,n56,c56,rfl,j56,o56⟩:=h53
  have o56:=o56.ext f55
  refine aJ (cl (vs:= [.slice A n cap,.slice A56 n56 c56]) hw2 (yZ (hx.ext hw2).wi (bQ la rfl) o56.wi (by rw [j56];exact aG (Nat.le_of_eq (hZ (show 1≤18446744073709551615 by decide) (show 1≠0 by decide)).symm) (by decide)) (by decide)) rfl (by kernel_rfl) fun xr59 v57 r59 e58 hw3=>?_)
  obtain rfl:=r59
  exact aQ rfl e58 rfl
 · 
  intro v60 e61
  have hw2:=hw1.trans e61
  refine dk rfl rfl (dk rfl rfl (aJ (cl (vs:= [.bool (decide (x<0)),.float .f64 (cU (Int.natAbs x*2^bM) 1)]) hw2 (rV (ng:=(decide (x<0))) (qL _ _)) rfl (by kernel_rfl) fun xr74 v72 r74 e73 hw3=>?_)))
  obtain rfl:=r74
  exact aQ rfl e73 rfl
 · 
  intro v75 e76
  have hw2:=hw1.trans e76
  refine dk rfl rfl (dk rfl rfl (dk rfl rfl (dk rfl rfl (dk rfl rfl (i7 rfl rfl fun x102 y103 h104 e105 f106=>?_)))))
  obtain⟨A107,n107,c107,rfl,j107,o107⟩:=h104
  have o107:=o107.ext f106
  refine dk rfl rfl (dk rfl rfl (aJ (mv 1 rfl (aU (gQ (aD (aM (aL [.float .f64 (dV (decide (x<0)) (cU (Int.natAbs x*2^bM) 1))] rfl ⟨rfl,trivial⟩ ?_))))))))
  exact⟨_,rfl,rfl,hw2⟩
set_option maxHeartbeats 4000000 in
theorem ZF {w:a6}{x:Int}(hx:Zi w s A n cap x)(la:n≤67108864)(hy:Zi w t B m cap' y)(lb:m≤67108864)(h0:y≠0):
    aO aF 169 #[.agg #[.bool s,.slice A n cap],.agg #[.bool t,.slice B m cap']] w (Gv w (T2 (Is (.float .f64 (vA x y))) (Is (.int .i64 0)))):=by
 have Lx:ln x≤67108864:=aG hx.ln la
 have Ly:ln y≤67108864:=aG hy.ln lb
 refine bK Tryz.func169 rfl (n:=21) rfl (bq rfl) (args:= [.agg #[.bool s,.slice A n cap],.agg #[.bool t,.slice B m cap']]) (bE [(0,.agg #[.bool s,.slice A n cap]),(1,.agg #[.bool t,.slice B m cap'])] ⟨rfl,rfl,trivial⟩ (sr (bx [.bool s,.slice A n cap] (Ext.refl w) rfl rfl rfl fun g1 v2 hb4 ge5 e3 hw1=>(pI [.bool t,.slice B m cap'] hw1 hb4.lt rfl rfl rfl fun g6 v7 hb9 ge10 q11 e8 hw2=>(mv 2 rfl (a0 (aA (sr (lo bO hb9 [.bool t,.slice B m cap'] rfl rfl rfl (cl (vs:= [.agg #[.bool t,.slice B m cap']]) hw2 (o8 (hy.ext hw2) (bQ lb rfl)) rfl (by kernel_rfl) fun xr14 v12 r14 e13 hw3=>?_))))))))))
 obtain rfl:=r14
 refine aB rfl rfl rfl false (jH (fun e=>h0 (xO.1 e))) (a0 (aI rfl (aN (aD (aA ?_)))))
 refine gR eZ 12 [] [Is (.agg #[.bool s,.slice A n cap]),Is (.int .i64 (cW x 0)),Is (.agg #[.bool t,.slice B m cap']),Is (.int .i64 (cW y 0)),Is (.int .i64 (cW (x*y) 0)),Is (.bool (decide (x*y<0))),Is (.pointer (some ⟨g1,1,none⟩)),Is (.slice A n cap),Is (.pointer (some ⟨g6,1,none⟩)),Is (.slice B m cap'),Is (.float .f64 (cU (Int.natAbs x*2^bM) (Int.natAbs y))),Is (.float .f64 (dV (decide (x*y<0)) (cU (Int.natAbs x*2^bM) (Int.natAbs y))))] [[],[0],[],[2],[1,3],[4],[],[6],[],[8],[7,9],[5,10]] [[],[0],[],[0,1,2],[0,1,2,3],[0,1,2,3,4],[],[6],[],[8],[0,1,2,3,6,7,8,9],[0,1,2,3,4,5,6,7,8,9,10],[0,1,2,3,4,5,6,7,8,9,10,11],[0,1,2,3,4,5,6,7,8,9,10,11,12]] rfl
  (aR rfl rfl (aK rfl rfl ?_) (aR rfl rfl (aK rfl rfl ?_) (aR rfl rfl (aK rfl rfl ?_) (aR rfl rfl (aK rfl rfl ?_) (aR rfl rfl (aK rfl rfl ?_) (aR rfl rfl (aK rfl rfl ?_) (aR rfl rfl (aK rfl rfl ?_) (aR rfl rfl (aK rfl rfl ?_) (aR rfl rfl (aK rfl rfl ?_) (aR rfl rfl (aK rfl rfl ?_) (aR rfl rfl (aK rfl rfl ?_) (aR rfl rfl (aK rfl rfl ?_) gP)))))))))))) ?_
 · 
  exact fun _ e16=>aJ (lo bO (hb4.ext (e8.trans (e13.trans e16))) [.bool s,.slice A n cap] rfl rfl rfl (aQ rfl (Ext.refl _) rfl))
 · 
  intro v17 e18
  have hw4:=hw3.trans e18
  refine dk rfl rfl (aJ (cl (vs:= [.agg #[.bool s,.slice A n cap]]) hw4 (o8 (hx.ext hw4) (bQ la rfl)) rfl (by kernel_rfl) fun xr26 v24 r26 e25 hw5=>?_))
  obtain rfl:=r26
  exact aQ rfl e25 rfl
 · 
  exact fun _ e28=>aJ (lo bO (hb9.ext (e13.trans e28)) [.bool t,.slice B m cap'] rfl rfl rfl (aQ rfl (Ext.refl _) rfl))
 · 
  intro v29 e30
  have hw4:=hw3.trans e30
  refine dk rfl rfl (aJ (cl (vs:= [.agg #[.bool t,.slice B m cap']]) hw4 (o8 (hy.ext hw4) (bQ lb rfl)) rfl (by kernel_rfl) fun xr38 v36 r38 e37 hw5=>?_))
  obtain rfl:=r38
  exact aQ rfl e37 rfl
 · 
  exact fun _ _=>dk rfl rfl (dk rfl rfl (aJ (aE rfl rfl rfl (cW (x*y) 0) (E0 (RQ x y) (by have:=GM (x*y) 0;omega) (by have:=GM (x*y) 0;omega)) (aQ rfl (Ext.refl _) rfl))))
 · 
  exact fun _ _=>dk rfl rfl (aJ (aB rfl rfl rfl (decide (x*y<0)) (MR (x*y)) (aQ rfl (Ext.refl _) rfl)))
 · 
  exact fun _ _=>aJ (pf g1 1 rfl (aQ rfl (Ext.refl _) rfl))
 · 
  exact fun _ e61=>dk rfl rfl (aJ (aS rfl rfl (aY eM (hb4.ext (e8.trans (e13.trans e61))) rfl) (aQ rfl (Ext.refl _) rfl)))
 · 
  exact fun _ _=>aJ (pf g6 1 rfl (aQ rfl (Ext.refl _) rfl))
 · 
  exact fun _ eH=>dk rfl rfl (aJ (aS rfl rfl (aY eM (hb9.ext (e13.trans eH)) rfl) (aQ rfl (Ext.refl _) rfl)))
 · 
  intro v76 e77
  have hw4:=hw3.trans e77
  refine dk rfl rfl (dk rfl rfl (aJ (cl (vs:= [.slice A n cap,.slice B m cap']) hw4 (yZ (hx.ext hw4).wi (bQ la rfl) (hy.ext hw4).wi (bQ lb rfl) (by omega)) rfl (by kernel_rfl) fun xr90 v88 r90 e89 hw5=>?_)))
  obtain rfl:=r90
  exact aQ rfl e89 rfl
 · 
  intro v91 e92
  have hw4:=hw3.trans e92
  refine dk rfl rfl (dk rfl rfl (aJ (cl (vs:= [.bool (decide (x*y<0)),.float .f64 (cU (Int.natAbs x*2^bM) (Int.natAbs y))]) hw4 (rV (ng:=(decide (x*y<0))) (qL _ _)) rfl (by kernel_rfl) fun xr105 v103 r105 e104 hw5=>?_)))
  obtain rfl:=r105
  exact aQ rfl e104 rfl
 · 
  intro v106 e107
  have hw4:=hw3.trans e107
  refine dk rfl rfl (dk rfl rfl (dk rfl rfl (dk rfl rfl (dk rfl rfl (dk rfl rfl (dk rfl rfl (dk rfl rfl (dk rfl rfl (dk rfl rfl (dk rfl rfl (dk rfl rfl (aJ (mv 1 rfl ?_)))))))))))))
  refine mv 1 rfl (aU (gQ (aD (aM (aL [.float .f64 (dV (decide (x*y<0)) (cU (Int.natAbs x*2^bM) (Int.natAbs y))),I0] rfl ⟨rfl,rfl,trivial⟩ ?_)))))
  exact⟨_,rfl,⟨_,_,rfl,rfl,rfl⟩,hw4⟩
set_option maxHeartbeats 4000000 in
theorem ZE {w:a6}{x:Int}(hx:Zi w s A n cap x)(la:n≤67108864)(hy:Zi w t B m cap' y)(lb:m≤67108864)(h0:y=0):
    aO aF 169 #[.agg #[.bool s,.slice A n cap],.agg #[.bool t,.slice B m cap']] w (Gv w (T2 (Is (.float .f64 0)) (Is (.int .i64 4)))):=by
 have Lx:ln x≤67108864:=aG hx.ln la
 have Ly:ln y≤67108864:=aG hy.ln lb
 refine bK Tryz.func169 rfl (n:=21) rfl (bq rfl) (args:= [.agg #[.bool s,.slice A n cap],.agg #[.bool t,.slice B m cap']]) (bE [(0,.agg #[.bool s,.slice A n cap]),(1,.agg #[.bool t,.slice B m cap'])] ⟨rfl,rfl,trivial⟩ (sr (bx [.bool s,.slice A n cap] (Ext.refl w) rfl rfl rfl fun g1 v2 hb4 ge5 e3 hw1=>(pI [.bool t,.slice B m cap'] hw1 hb4.lt rfl rfl rfl fun g6 v7 hb9 ge10 q11 e8 hw2=>(mv 2 rfl (a0 (aA (sr (lo bO hb9 [.bool t,.slice B m cap'] rfl rfl rfl (cl (vs:= [.agg #[.bool t,.slice B m cap']]) hw2 (o8 (hy.ext hw2) (bQ lb rfl)) rfl (by kernel_rfl) fun xr14 v12 r14 e13 hw3=>?_))))))))))
 obtain rfl:=r14
 refine aB rfl rfl rfl true (gD (xO.2 h0)) (a0 (aP rfl (sr (mv 2 rfl (a0 (aM (bL (aL [.float .f64 0,.int .i64 4] rfl ⟨rfl,rfl,trivial⟩ ?_))))))))
 exact⟨_,rfl,⟨_,_,rfl,rfl,rfl⟩,hw3⟩
set_option maxHeartbeats 4000000 in
theorem ZJ {w:a6}(hb:f<18446744073709551616)(hf:fin f):
    aO aF 216 #[.float .f64 f] w (Gv w (Is (.bool false))):=by
 refine bK Tryz.func216 rfl (n:=6) rfl (bq rfl) (args:= [.float .f64 f]) (bE [(0,.float .f64 f)] ⟨rfl,trivial⟩ (sr (mv 1 rfl (a0 (sr (mv 2 rfl (bD rfl rfl (v:= .bool (FloatKind.f64.format.order f f != some .eq)) (v':= .bool false) (congrArg Value.bool (VX hb hf)) (mv 1 rfl (a0 (aM (aL [F0] rfl ⟨rfl,trivial⟩ ?_)))))))))))
 exact⟨_,rfl,rfl,(Ext.refl w)⟩
set_option maxHeartbeats 4000000 in
theorem ZK {w:a6}(hb:f<18446744073709551616)(hf:fin f):
    aO aF 217 #[.float .f64 f,.int .i64 1] w (Gv w (Is (.bool false))):=by
 refine bK Tryz.func217 rfl (n:=15) rfl (bq rfl) (args:= [.float .f64 f,.int .i64 1]) (bE [(0,.float .f64 f),(1,.int .i64 1)] ⟨rfl,rfl,trivial⟩ (sr (mv 1 rfl (a0 (aA (sr (mv 1 rfl (aB rfl rfl rfl false (by decide) (a0 (aI rfl (sr (mv 1 rfl (aB rfl rfl rfl false (by decide) ?_)))))))))))))
 refine a0 (aI rfl (aN (aD (sr (mv 1 rfl (bD rfl rfl (v:= .bool (FloatKind.f64.format.order f 9218868437227405311==some .gt)) (v':= .bool false) (congrArg Value.bool (JJ hb hf)) (mv 1 rfl (a0 (aM (aL [F0] rfl ⟨rfl,trivial⟩ ?_))))))))))
 exact⟨_,rfl,rfl,(Ext.refl w)⟩
set_option maxHeartbeats 4000000 in
theorem ZM {w:a6}(hb:f<18446744073709551616)(hf:fin f):
    aO aF 217 #[.float .f64 f,.int .i64 (-1)] w (Gv w (Is (.bool false))):=by
 refine bK Tryz.func217 rfl (n:=15) rfl (bq rfl) (args:= [.float .f64 f,.int .i64 (-1)]) (bE [(0,.float .f64 f),(1,.int .i64 (-1))] ⟨rfl,rfl,trivial⟩ (sr (mv 1 rfl (a0 (aA (sr (mv 1 rfl (aB rfl rfl rfl false (by decide) (a0 (aI rfl (sr (mv 1 rfl (aB rfl rfl rfl true (by decide) ?_)))))))))))))
 refine a0 (aP rfl (a7 (mv 1 rfl (pu (v:= .float .f64 (f^^^9223372036854775808)) rfl (mv 1 rfl (a0 (sr (mv 1 rfl (bD rfl rfl (v:= .bool (FloatKind.f64.format.order (f^^^9223372036854775808) 9218868437227405311==some .gt)) (v':= .bool false) (congrArg Value.bool (JJ (JL hb hf).2.1 (JL hb hf).1)) (mv 1 rfl (a0 (aM (aL [F0] rfl ⟨rfl,trivial⟩ ?_)))))))))))))
 exact⟨_,rfl,rfl,(Ext.refl w)⟩
set_option maxHeartbeats 4000000 in
theorem ZN {w:a6}:
    aO aF 217 #[.float .f64 9218868437227405312,.int .i64 1] w (Gv w (Is (.bool true))):=by
 refine bK Tryz.func217 rfl (n:=15) rfl (bq rfl) (args:= [.float .f64 9218868437227405312,.int .i64 1]) (bE [(0,.float .f64 9218868437227405312),(1,.int .i64 1)] ⟨rfl,rfl,trivial⟩ (sr (mv 1 rfl (a0 (aA (sr (mv 1 rfl (aB rfl rfl rfl false (by decide) (a0 (aI rfl (sr (mv 1 rfl (aB rfl rfl rfl false (by decide) ?_)))))))))))))
 refine a0 (aI rfl (aN (aD (sr (mv 1 rfl (bD rfl rfl (v:= .bool (FloatKind.f64.format.order 9218868437227405312 9218868437227405311==some .gt)) (v':= .bool true) (congrArg Value.bool (show (FloatKind.f64.format.order 9218868437227405312 9218868437227405311==some .gt)=true by decide)) (mv 1 rfl (a0 (aM (aL [.bool true] rfl ⟨rfl,trivial⟩ ?_))))))))))
 exact⟨_,rfl,rfl,(Ext.refl w)⟩
set_option maxHeartbeats 4000000 in
theorem ZO {w:a6}:
    aO aF 217 #[.float .f64 18442240474082181120,.int .i64 (-1)] w (Gv w (Is (.bool true))):=by
 refine bK Tryz.func217 rfl (n:=15) rfl (bq rfl) (args:= [.float .f64 18442240474082181120,.int .i64 (-1)]) (bE [(0,.float .f64 18442240474082181120),(1,.int .i64 (-1))] ⟨rfl,rfl,trivial⟩ (sr (mv 1 rfl (a0 (aA (sr (mv 1 rfl (aB rfl rfl rfl false (by decide) (a0 (aI rfl (sr (mv 1 rfl (aB rfl rfl rfl true (by decide) ?_)))))))))))))
 refine a0 (aP rfl (a7 (mv 1 rfl (pu (v:= .float .f64 (18442240474082181120^^^9223372036854775808)) rfl (mv 1 rfl (a0 (sr (mv 1 rfl (bD rfl rfl (v:= .bool (FloatKind.f64.format.order (18442240474082181120^^^9223372036854775808) 9218868437227405311==some .gt)) (v':= .bool true) (congrArg Value.bool (show (FloatKind.f64.format.order (18442240474082181120^^^9223372036854775808) 9218868437227405311==some .gt)=true by decide)) (mv 1 rfl (a0 (aM (aL [.bool true] rfl ⟨rfl,trivial⟩ ?_)))))))))))))
 exact⟨_,rfl,rfl,(Ext.refl w)⟩
theorem OO {w:a6}(h:Zr w b s A n c (eL f))(ha:Int.natAbs (eL f)=od (pm f)):sg s (Int.natAbs (eL f)*2^k)=sg (cY f) (od (pm f)*2^k):=by
 rw [ha]
 by_cases h0:pm f=0
 ·rw [h0,oX,iZ,mP,mP]
 ·rw [(BM h).2 h0]
theorem GJ {w:a6}{x:Int}(h:Zi w s A n cap x):sg s (x.natAbs*k)=x*(k:Int):=by
 obtain⟨xs,_,rfl⟩:=h
 rw [p8,rJ]
set_option maxHeartbeats 4000000 in
theorem ZU {w:a6}{x:Int}(hx:Zi w s A n cap x)(la:n≤67108864)(hb:f<18446744073709551616)(hf:fin f):
    aO aF 173 #[.agg #[.bool s,.slice A n cap],.float .f64 f] w (Gv w (T2 (Is (.int .i64 (cW (x*((2^bM:Nat):Int)) (fv f)))) (Is (.int .i64 0)))):=by
 have Lx:ln x≤67108864:=aG hx.ln la
 refine bK Tryz.func173 rfl (n:=48) rfl (bq rfl) (args:= [.agg #[.bool s,.slice A n cap],.float .f64 f]) (bE [(0,.agg #[.bool s,.slice A n cap]),(1,.float .f64 f)] ⟨rfl,rfl,trivial⟩ (sr (bx [.bool s,.slice A n cap] (Ext.refl w) rfl rfl rfl fun g1 v2 hb4 ge5 e3 hw1=>(mv 2 rfl (a0 (aA (bG (sr (mv 1 rfl (cl (vs:= [.float .f64 f]) hw1 (ZJ hb hf) rfl (by kernel_rfl) fun xr8 v6 r8 e7 hw2=>?_))))))))))
 obtain rfl:=r8
 refine mv 1 rfl (a0 (aI rfl (sr (mv 1 rfl (cl (vs:= [.float .f64 f,.int .i64 1]) hw2 (ZK hb hf) rfl (by kernel_rfl) fun xr11 v9 r11 e10 hw3=>?_)))))
 obtain rfl:=r11
 refine mv 1 rfl (a0 (aI rfl (sr (mv 1 rfl (cl (vs:= [.float .f64 f,.int .i64 (-1)]) hw3 (ZM hb hf) rfl (by kernel_rfl) fun xr14 v12 r14 e13 hw4=>?_)))))
 obtain rfl:=r14
 refine mv 1 rfl (a0 (aI rfl (aN (cA (aD (sr (mv 1 rfl (cl (vs:= [.float .f64 f]) hw4 (D2 hw4.size hb hf) rfl (by kernel_rfl) fun xr17 v15 r17 e16 hw5=>?_))))))))
 obtain⟨_,_,_,rfl,⟨s19,A19,n19,c19,rfl,z19⟩,rfl,rfl⟩:=r17
 refine mv 1 rfl (pu (v:= .agg #[.bool s19,.slice A19 n19 c19]) rfl (pu (v:= .int .i64 (eX f)) rfl (pu (v:= .int .i64 0) rfl (kW [F0,S0] hw5 (hb4.ext (e7.trans (e10.trans (e13.trans e16)))).lt (fun _=>by kernel_rfl) rfl fun g20 v21 hb23 ge24 q25 e22 hw6=>(so bO hb23 [.bool s19,.slice A19 n19 c19] hw6 ge24 rfl rfl rfl rfl fun v26 hb28 u29 hw7=>?_)))))
 have zs31:=((z19.ext e22).updT hb23 u29)
 refine mv 2 rfl (a0 (aA (aA ?_)))
 have hab:Int.natAbs (eL f)=od (pm f):=by unfold eL;exact p8 _ _
 have hsb:=GC hf
 by_cases hsp:0≤eX f
 · 
  obtain⟨k,hk⟩:∃k:Nat,eX f=(k:Int):=⟨(eX f).toNat,by omega⟩
  rw [hk]
  refine a7 (mv 1 rfl (aB rfl rfl rfl true (eI (a:=k) (b:=0) rfl rfl) (a0 (aP rfl (a7 (pf g20 1 rfl (aS rfl rfl (aY eM hb28 rfl) (mv 1 rfl (cl (vs:= [.slice A19 n19 c19,.int .i64 k]) hw7 (rW (b:=w.heap.size) hw7.size (by omega) ((z19.ext e22).updT hb23 u29).zi.wi (z19.le (aG (show ln (eL f)≤1 from rQ (rM f)) (by decide)))) rfl (by kernel_rfl) fun xr34 v32 r34 e33 hw8=>?_)))))))))
  obtain⟨A35,n35,c35,rfl,j35,o35⟩:=r34
  refine pf g20 1 rfl ?_
  have hb38:=(hb28.ext e33)
  refine eB rfl rfl rfl (fun _=>by kernel_rfl) rfl hb38 (bq rfl) rfl [.bool s19,.slice A35 n35 c35] rfl fun v36 hb37 u39 hs40=>?_
  have hw9:=u39.ext hw8 ge24
  refine a0 (sr (lo bO ((((hb4.ext (e7.trans (e10.trans (e13.trans (e16.trans e22))))).updN u29 (by omega)).ext e33).updN u39 (by omega)) [.bool s,.slice A n cap] rfl rfl rfl (lo bO hb37 [.bool s19,.slice A35 n35 c35] rfl rfl rfl (cl (vs:= [.agg #[.bool s,.slice A n cap],.agg #[.bool s19,.slice A35 n35 c35]]) hw9 (L3 (hx.ext hw9) (bQ la rfl) (((o35.updT hb38 (by decide) u39)).wi.zi s19) (aG (aG (Nat.le_of_eq j35) (nZ (n:=1) (by rw [hab];exact rM f))) (by decide))) rfl (by kernel_rfl) fun xr43 v41 r43 e42 hw10=>?_))))
  obtain rfl:=r43
  refine mv 2 rfl (a0 (aM (aL [.int .i64 (cW x (sg s19 (Int.natAbs (eL f)*2^k))),I0] rfl ⟨rfl,rfl,trivial⟩ ?_)))
  exact⟨_,rfl,⟨_,_,rfl,(show bV .i64 (cW x (sg s19 (Int.natAbs (eL f)*2^k)))=_ from congrArg _ (a0R hk (OO zs31 hab))),rfl⟩,hw10⟩
 · 
  obtain⟨k,hk⟩:∃k:Nat,eX f= -(k:Int):=⟨(-eX f).toNat,by omega⟩
  rw [hk]
  refine a7 (mv 1 rfl (aB rfl rfl rfl false (jG) (a0 (aI rfl (aA (aA ?_))))))
  by_cases hfar:1100<bA (Int.natAbs x)
  · 
   refine a7 (pf g1 1 rfl (aS rfl rfl (aY eM ((hb4.ext (e7.trans (e10.trans (e13.trans (e16.trans e22))))).updN u29 (by omega)) rfl) (cl (vs:= [.slice A n cap]) hw7 (oC (hx.ext hw7).wi (bQ la rfl)) rfl (by kernel_rfl) fun xr46 v44 r46 iD hw8=>?_)))
   obtain rfl:=r46
   refine aB rfl rfl rfl true (dJ (a:=bA (Int.natAbs x)) (b:=1100) rfl rfl) (a0 (aP rfl (sr (lo bO (((hb4.ext (e7.trans (e10.trans (e13.trans (e16.trans e22))))).updN u29 (by omega)).ext iD) [.bool s,.slice A n cap] rfl rfl rfl (cl (vs:= [.agg #[.bool s,.slice A n cap]]) hw8 (o8 (hx.ext hw8) (bQ la rfl)) rfl (by kernel_rfl) fun xr49 v47 r49 e48 hw9=>?_)))))
   obtain rfl:=r49
   refine mv 2 rfl (a0 (aM (bL (bL (aL [.int .i64 (cW x 0),I0] rfl ⟨rfl,rfl,trivial⟩ ?_)))))
   exact⟨_,rfl,⟨_,_,rfl,(show bV .i64 (cW x 0)=_ from congrArg _ (a0S hf hfar)),rfl⟩,hw9⟩
  · 
   refine a7 (pf g1 1 rfl (aS rfl rfl (aY eM ((hb4.ext (e7.trans (e10.trans (e13.trans (e16.trans e22))))).updN u29 (by omega)) rfl) (cl (vs:= [.slice A n cap]) hw7 (oC (hx.ext hw7).wi (bQ la rfl)) rfl (by kernel_rfl) fun xr52 v50 r52 e51 hw8=>?_)))
   obtain rfl:=r52
   refine aB rfl rfl rfl false (d6 (a:=bA (Int.natAbs x)) (b:=1100) rfl rfl) (a0 (aI rfl (aN (aD ?_))))
   refine gR eZ 8 [] [Is (.pointer (some ⟨g1,0,none⟩)),Is (.bool s),Is (.pointer (some ⟨g1,1,none⟩)),Is (.slice A n cap),Is (.int .i64 (-((k:Nat):Int))),Is (.int .i64 k),WR w.heap.size (Int.natAbs x*2^k),ZW w.heap.size s (Int.natAbs x*2^k)] [[],[0],[],[2],[],[4],[3,5],[1,6]] [[],[0],[],[2],[],[4],[2,3,4,5],[0,1,2,3,4,5,6],[0,1,2,3,4,5,6,7]] rfl
    (aR rfl rfl (aK rfl rfl ?_) (aR rfl rfl (aK rfl rfl ?_) (aR rfl rfl (aK rfl rfl ?_) (aR rfl rfl (aK rfl rfl ?_) (aR rfl rfl (aK rfl rfl ?_) (aR rfl rfl (aK rfl rfl ?_) (aR rfl rfl (aK rfl rfl ?_) (aR rfl rfl (aK rfl rfl ?_) gP)))))))) ?_
   · 
    exact fun _ _=>aJ (pf g1 0 rfl (aQ rfl (Ext.refl _) rfl))
   · 
    exact fun _ e58=>dk rfl rfl (aJ (aS rfl rfl (aY eK (((hb4.ext (e7.trans (e10.trans (e13.trans (e16.trans e22))))).updN u29 (by omega)).ext (e51.trans e58)) rfl) (aQ rfl (Ext.refl _) rfl)))
   · 
    exact fun _ _=>aJ (pf g1 1 rfl (aQ rfl (Ext.refl _) rfl))
   · 
    exact fun _ e67=>dk rfl rfl (aJ (aS rfl rfl (aY eM (((hb4.ext (e7.trans (e10.trans (e13.trans (e16.trans e22))))).updN u29 (by omega)).ext (e51.trans e67)) rfl) (aQ rfl (Ext.refl _) rfl)))
   · 
    exact fun _ _=>aJ (mv 1 rfl (aQ rfl (Ext.refl _) rfl))
   · 
    exact fun _ _=>dk rfl rfl (aJ (bD rfl rfl (v:= .int .i64 (IntKind.i64.wrap (0- -((k:Nat):Int)))) (v':= .int .i64 k) (oB) (aQ rfl (Ext.refl _) rfl)))
   · 
    intro v82 e83
    have hw9:=hw8.trans e83
    refine dk rfl rfl (dk rfl rfl (aJ (cl (vs:= [.slice A n cap,.int .i64 k]) hw9 (rW (b:=w.heap.size) hw9.size (by omega) (hx.ext hw9).wi (bQ la rfl)) rfl (by kernel_rfl) fun xr96 v94 r96 e95 hw10=>?_)))
    obtain⟨A97,n97,c97,rfl,j97,o97⟩:=r96
    exact aQ rfl e95 ⟨_,_,_,rfl,j97,o97⟩
   · 
    intro v98 e99
    refine dk rfl rfl (i7 rfl rfl fun x105 y106 h107 e108 f109=>?_)
    obtain⟨A110,n110,c110,rfl,j110,o110⟩:=h107
    have o110:=o110.ext f109
    refine aJ (pu (v:= .agg #[.bool s,.slice A110 n110 c110]) rfl ?_)
    exact aQ rfl (Ext.refl _) ⟨_,_,_,rfl,j110,o110⟩
   · 
    intro v111 e112
    have hw9:=hw8.trans e112
    refine dk rfl rfl (dk rfl rfl (dk rfl rfl (dk rfl rfl (dk rfl rfl (dk rfl rfl (i7 rfl rfl fun x143 y144 h145 e146 f147=>?_))))))
    obtain⟨A148,n148,c148,rfl,j148,o148⟩:=h145
    have o148:=o148.ext f147
    refine i7 rfl rfl fun x149 y150 h151 e152 f153=>?_
    obtain⟨A154,n154,c154,rfl,j154,o154⟩:=h151
    have o154:=o154.ext f153
    refine aJ ?_
    have hb156:=(((hb4.ext (e7.trans (e10.trans (e13.trans (e16.trans e22))))).updN u29 (by omega)).ext (e51.trans e112))
    refine so bO hb156 [.bool s,.slice A154 n154 c154] hw9 ge5 rfl rfl rfl rfl fun v155 hb157 u158 hw10=>(aU (gQ (aD (sr (lo bO hb157 [.bool s,.slice A154 n154 c154] rfl rfl rfl (lo bO ((hb28.ext (e51.trans e112)).updN u158 (by omega)) [.bool s19,.slice A19 n19 c19] rfl rfl rfl (cl (vs:= [.agg #[.bool s,.slice A154 n154 c154],.agg #[.bool s19,.slice A19 n19 c19]]) hw10 (L3 (((o154.updT hb156 (by decide) u158)).wi.zi s) (aG (aG (Nat.le_of_eq j154) (nZ (n:=67108864) (show (wd (Int.natAbs x)).length≤67108864 from Lx))) (by decide)) ((((z19.ext e22).updT hb23 u29).ext (e51.trans e112)).updT hb156 u158).zi (z19.le (aG (show ln (eL f)≤1 from rQ (rM f)) (by decide)))) rfl (by kernel_rfl) fun xr162 v160 r162 e161 hw11=>?_)))))))
    obtain rfl:=r162
    refine mv 2 rfl (a0 (aM (aL [.int .i64 (cW (sg s (Int.natAbs x*2^k)) (eL f)),I0] rfl ⟨rfl,rfl,trivial⟩ ?_)))
    exact⟨_,rfl,⟨_,_,rfl,(show bV .i64 (cW (sg s (Int.natAbs x*2^k)) (eL f))=_ from congrArg _ ((by rw [GJ hx];exact a0T hk))),rfl⟩,hw11⟩
def NU (P:cD)(n:Nat)(ol:List aX)(l:Fr)(T:aT)(zs:List aH)(j:Nat):Prop:=
 match ol[j]? with
 | some o=>∀w,iT P n l o w (.value (.pointer (some ⟨w.heap.size,0,none⟩))) (w.alloc (.cells zs.toArray T))
 | none=>False
section
variable {P:cD}{Q:Exit→Act→a6→Prop}{n:Nat}{ol:List aX}{vs:List aH}{w0 w:a6}{dss rl:List (List Nat)}{l:Fr}{ps:List (Nat×Nat)}{T:aT}{zs us1 us2:List aH}{j1 j2 s1 s2 k1 k2:Nat}{st:List Nat}{listed:Array Bool}{a:Act}
theorem a1P {z:aH}(ho:ol[j]?=some ⟨some d,.alloc T,ty,pos,af,none⟩)(hz:∀w,(zeroValue T).run P w= .ok z w)(hv:z.cells=zs.toArray):NU P n ol l T zs j:=by
 unfold NU
 rw [ho]
 intro w a _
 have e:(AZ T true (.tuple #[])).run P w= .ok (.pointer (some ⟨w.heap.size,0,none⟩)) (w.alloc (.cells zs.toArray T)):=by
  show ((zeroValue T>>=fun z=>(newVar T z>>=fun r=>pure (wL (some r))):Sem aH)).run P w=_
  rw [cK,hz w]
  show ((newVar T z>>=fun r=>pure (wL (some r)):Sem aH)).run P w=_
  rw [cK,BU hv];rfl
 show ((AZ T true (.tuple #[])>>=fun r=>pure (fZ r):Sem Next)).run P w=_
 rw [cK,e];rfl
end
theorem tM {w:a6}(hX:Wi w A n c X)(hl:n≤274877906943):aO aF 208 #[.slice A n c] w (Gv w (Is (.int .i64 ((bA X:Nat):Int)))):=by
 obtain⟨xs,h1,rfl⟩:=hX
 refine (TX h1 hl).mono fun e w' h=>?_
 obtain⟨k,h1,rfl,h2⟩:=h
 exact⟨_,rfl,(show bV .i64 (k:Int)=_ by rw [h1.out]),h2⟩
theorem pE (h:(wd X).length≤N)(hk:k≤4096:=by omega):(wd (X*2^k)).length≤N+65:=nZ h (hk:=hk)
set_option maxHeartbeats 4000000 in
theorem U8 {w:a6}(hX:Wi w A n c X)(hXn:n≤2097152)(hk:k≤4096):
    aO aF 114 #[.slice A n c,.int .i64 k] w (Gv w (WR w.heap.size (X*2^k))):=by
 have hXl:(wd X).length≤2097152:=aG hX.len hXn
 refine bK Tryz.func114 rfl (n:=14) rfl (bq rfl) (args:= [.slice A n c,.int .i64 k]) (bE [(0,.slice A n c),(1,.int .i64 k)] ⟨rfl,rfl,trivial⟩ (sr (mv 1 rfl (a0 (sr (mv 2 rfl (cl (vs:= [.slice A n c,.int .i64 k]) (Ext.refl w) (V2 (Ext.refl w).size hX (bQ hXn rfl) (by omega)) rfl (by kernel_rfl) fun xr3 v1 r3 e2 hw1=>?_)))))))
 obtain⟨_,_,rfl,⟨A5,n5,c5,rfl,j5,o5⟩,rfl⟩:=r3
 refine mv 1 rfl (pu (v:= .slice A5 n5 c5) rfl (pu (v:= .int .i64 0) rfl (mv 2 rfl (a0 (sr (mv 2 rfl (a0 (aM (aL [.slice A5 n5 c5] rfl ⟨rfl,trivial⟩ ?_)))))))))
 exact⟨_,rfl,⟨_,_,_,rfl,j5,o5⟩,hw1⟩
theorem oU {w:a6}(hb:b≤w.heap.size)(hX:Wi w A n c X)(hXn:n≤2097152)(hk:k≤4096:=by omega):aO aF 114 #[.slice A n c,.int .i64 k] w (Gv w (WR b (X*2^k))):=(U8 hX hXn hk).mono (Gv.imp (WR.imp hb))
set_option maxHeartbeats 4000000 in
theorem U9 {w:a6}(hX:Wi w A n c X)(hXn:n≤2000000)(hD:Wi w B n' c' D)(hDn:n'≤2000000)(hD0:0<D)(hk:k≤4096)(hk0:0<k):
    aO aF 254 #[.slice A n c,.slice B n' c',.int .i64 k] w (Gv w (T2 (WR w.heap.size (X/(D*2^k))) (Is (.int .i64 (dH (X%(D*2^k)*2^1) (D*2^k)))))):=by
 have hXl:(wd X).length≤2000000:=aG hX.len hXn
 have hDl:(wd D).length≤2000000:=aG hD.len hDn
 have hXl2:(wd X).length≤2000065:=aG hXl (by decide)
 have hE0:D*2^k≠0:=Nat.ne_of_gt (fS hD0 (dW k))
 refine bK Tryz.func254 rfl (n:=33) rfl (bq rfl) (args:= [.slice A n c,.slice B n' c',.int .i64 k]) (bE [(0,.slice A n c),(1,.slice B n' c'),(2,.int .i64 k)] ⟨rfl,rfl,rfl,trivial⟩ (sr (mv 2 rfl (a0 (aA (sr (mv 1 rfl (aB rfl rfl rfl true (dJ (a:=k) (b:=0) rfl rfl) (a0 (aP rfl (a7 (mv 2 rfl ?_))))))))))))
 have L1:(wd (D*2^k)).length≤2000065:=pE hDl
 refine cl (vs:= [.slice B n' c',.int .i64 k]) (Ext.refl w) (oU (k:=k) (Ext.refl w).size hD (bQ hDn rfl)) rfl (by kernel_rfl) fun xr4 v2 r4 e3 hw1=>?_
 obtain⟨A5,n5,c5,rfl,j5,o5⟩:=r4
 refine mv 1 rfl (a0 (sr (mv 2 rfl ?_)))
 have hR:(wd ((X)%(D*2^k))).length≤2000065:=aG (gZ (Nat.mod_le _ _)) hXl2
 refine cl (vs:= [.slice A n c,.slice A5 n5 c5]) hw1 (L6 hw1.size (hX.ext hw1) (bQ hXn rfl) o5.wi (by rw [j5];exact aG L1 (by decide)) hE0) rfl (by kernel_rfl) fun xr8 v6 r8 e7 hw2=>?_
 obtain⟨_,_,_,rfl,⟨A10,n10,c10,rfl,j10,o10⟩,⟨A11,n11,c11,rfl,j11,o11⟩,rfl⟩:=r8
 refine mv 1 rfl (pu (v:= .slice A10 n10 c10) rfl (pu (v:= .slice A11 n11 c11) rfl (pu (v:= .int .i64 0) rfl (mv 3 rfl (a0 (sr (mv 1 rfl ?_)))))))
 have L12:(wd (((X)%(D*2^k))*2^1)).length≤2000130:=pE hR
 refine cl (vs:= [.slice A11 n11 c11,.int .i64 1]) hw2 (oU (k:=1) hw2.size o11.wi (by rw [j11];exact aG hR (by decide))) rfl (by kernel_rfl) fun xr15 v13 r15 e14 hw3=>?_
 obtain⟨A16,n16,c16,rfl,j16,o16⟩:=r15
 refine mv 1 rfl (a0 (sr (mv 3 rfl (cl (vs:= [.slice A16 n16 c16,.slice A5 n5 c5]) hw3 (qT o16.wi (by rw [j16];exact aG L12 (by decide)) (o5.ext (e7.trans e14)).wi (by rw [j5];exact aG L1 (by decide))) rfl (by kernel_rfl) fun xr19 v17 r19 e18 hw4=>?_))))
 obtain rfl:=r19
 refine mv 2 rfl (a0 (aM (aL [.slice A10 n10 c10,.int .i64 (dH (((X)%(D*2^k))*2^1) (D*2^k))] rfl ⟨rfl,rfl,trivial⟩ ?_)))
 exact⟨_,rfl,⟨_,_,rfl,⟨_,_,_,rfl,j10,(o10.ext (e14.trans e18))⟩,rfl⟩,hw4⟩
set_option maxHeartbeats 4000000 in
theorem UA {w:a6}(hX:Wi w A n c X)(hXn:n≤2000000)(hD:Wi w B n' c' D)(hDn:n'≤2000000)(hD0:0<D)(hk:k≤4096):
    aO aF 254 #[.slice A n c,.slice B n' c',.int .i64 (-((k:Nat):Int))] w (Gv w (T2 (WR w.heap.size ((X*2^k)/(D))) (Is (.int .i64 (dH ((X*2^k)%(D)*2^1) (D)))))):=by
 have hXl:(wd X).length≤2000000:=aG hX.len hXn
 have hDl:(wd D).length≤2000000:=aG hD.len hDn
 have hXl2:(wd X).length≤2000065:=aG hXl (by decide)
 have hE0:D≠0:=Nat.ne_of_gt hD0
 refine bK Tryz.func254 rfl (n:=33) rfl (bq rfl) (args:= [.slice A n c,.slice B n' c',.int .i64 (-((k:Nat):Int))]) (bE [(0,.slice A n c),(1,.slice B n' c'),(2,.int .i64 (-((k:Nat):Int)))] ⟨rfl,rfl,rfl,trivial⟩ (sr (mv 2 rfl (a0 (aA (sr (mv 1 rfl (aB rfl rfl rfl false (pF) (a0 (aI rfl (a7 (mv 2 rfl (bD rfl rfl (v:= .int .i64 (IntKind.i64.wrap (0- -((k:Nat):Int)))) (v':= .int .i64 k) (oB) ?_)))))))))))))
 have L1:(wd (X*2^k)).length≤2000065:=pE hXl
 refine cl (vs:= [.slice A n c,.int .i64 k]) (Ext.refl w) (oU (k:=k) (Ext.refl w).size hX (bQ hXn rfl)) rfl (by kernel_rfl) fun xr4 v2 r4 e3 hw1=>?_
 obtain⟨A5,n5,c5,rfl,j5,o5⟩:=r4
 refine mv 1 rfl (a0 (sr (mv 2 rfl ?_)))
 have hR:(wd ((X*2^k)%(D))).length≤2000065:=aG (gZ (Nat.mod_le _ _)) L1
 refine cl (vs:= [.slice A5 n5 c5,.slice B n' c']) hw1 (L6 hw1.size o5.wi (by rw [j5];exact aG L1 (by decide)) (hD.ext hw1) (bQ hDn rfl) hE0) rfl (by kernel_rfl) fun xr8 v6 r8 e7 hw2=>?_
 obtain⟨_,_,_,rfl,⟨A10,n10,c10,rfl,j10,o10⟩,⟨A11,n11,c11,rfl,j11,o11⟩,rfl⟩:=r8
 refine mv 1 rfl (pu (v:= .slice A10 n10 c10) rfl (pu (v:= .slice A11 n11 c11) rfl (pu (v:= .int .i64 0) rfl (mv 3 rfl (a0 (sr (mv 1 rfl ?_)))))))
 have L12:(wd (((X*2^k)%(D))*2^1)).length≤2000130:=pE hR
 refine cl (vs:= [.slice A11 n11 c11,.int .i64 1]) hw2 (oU (k:=1) hw2.size o11.wi (by rw [j11];exact aG hR (by decide))) rfl (by kernel_rfl) fun xr15 v13 r15 e14 hw3=>?_
 obtain⟨A16,n16,c16,rfl,j16,o16⟩:=r15
 refine mv 1 rfl (a0 (sr (mv 3 rfl (cl (vs:= [.slice A16 n16 c16,.slice B n' c']) hw3 (qT o16.wi (by rw [j16];exact aG L12 (by decide)) (hD.ext hw3) (bQ hDn rfl)) rfl (by kernel_rfl) fun xr19 v17 r19 e18 hw4=>?_))))
 obtain rfl:=r19
 refine mv 2 rfl (a0 (aM (aL [.slice A10 n10 c10,.int .i64 (dH (((X*2^k)%(D))*2^1) (D))] rfl ⟨rfl,rfl,trivial⟩ ?_)))
 exact⟨_,rfl,⟨_,_,rfl,⟨_,_,_,rfl,j10,(o10.ext (e14.trans e18))⟩,rfl⟩,hw4⟩
theorem IG {w:a6}(hb:b≤w.heap.size)(hX:Wi w A n c X)(hXn:n≤2000000)(hD:Wi w B n' c' D)(hDn:n'≤2000000)(hD0:0<D)(h1: -4096≤e)(h2:e≤4096)(hQ:qN X e/qD D e=Q)(hC:dH (qN X e%qD D e*2^1) (qD D e)=C):
  aO aF 254 #[.slice A n c,.slice B n' c',.int .i64 e] w (Gv w (T2 (WR b Q) (Is (.int .i64 C)))):=by
 subst hQ hC
 by_cases h:0<e
 ·obtain⟨k,rfl⟩:=Int.eq_ofNat_of_zero_le (Int.le_of_lt h)
  have e1:qN X (k:Int)=X:=by unfold qN;rw [show (-(k:Int)).toNat=0 by omega,Nat.pow_zero,cI]
  have e2:qD D (k:Int)=D*2^k:=by unfold qD;rw [gV]
  rw [e1,e2]
  exact (U9 hX hXn hD hDn hD0 (by omega) (by omega)).mono (Gv.imp (T2.imp (WR.imp hb) Is.imp))
 ·obtain⟨k,hk⟩:=Int.eq_ofNat_of_zero_le (show 0≤ -e by omega)
  obtain rfl:e= -(k:Int):=by omega
  have e1:qN X (-(k:Int))=X*2^k:=by unfold qN;rw [Int.neg_neg,gV]
  have e2:qD D (-(k:Int))=D:=by unfold qD;rw [show (-(k:Int)).toNat=0 by omega,Nat.pow_zero,cI]
  rw [e1,e2]
  exact (UA hX hXn hD hDn hD0 (by omega)).mono (Gv.imp (T2.imp (WR.imp hb) Is.imp))
set_option maxHeartbeats 8000000 in
theorem UE {w:a6}(hX:Wi w A n c X)(hXn:n≤2000000)(hD:Wi w B n' c' D)(hDn:n'≤2000000)(hD0:0<D):
    aO aF 222 #[.slice A n c,.slice B n' c'] w (Gv w (Is (.int .u64 ((cU (X*2^bM) D:Nat):Int)))):=by
 have hXl:(wd X).length≤2000000:=aG hX.len hXn
 have hDl:(wd D).length≤2000000:=aG hD.len hDn
 refine bK Tryz.func222 rfl (n:=88) rfl (bq rfl) (args:= [.slice A n c,.slice B n' c']) (bE [(0,.slice A n c),(1,.slice B n' c')] ⟨rfl,rfl,trivial⟩ (sr (mv 1 rfl (a0 (aA ?_)))))
 have hbX:=zS hXl
 have hbD:=zS hDl
 have hDb:bA D≠0:=fun e=>by have:=kD.1 e;omega
 refine a7 (mv 1 rfl (cl (vs:= [.slice A n c]) (Ext.refl w) (tM hX (bQ hXn rfl)) rfl (by kernel_rfl) fun xr3 v1 r3 e2 hw1=>?_))
 obtain rfl:=r3
 refine mv 1 rfl (a0 (sr (mv 1 rfl (cl (vs:= [.slice B n' c']) hw1 (tM (hD.ext hw1) (bQ hDn rfl)) rfl (by kernel_rfl) fun xr6 v4 r6 e5 hw2=>?_))))
 obtain rfl:=r6
 refine mv 1 rfl (a0 (aA (aA ?_)))
 by_cases hX0:X=0
 · 
  have hb0:bA X=0:=by rw [hX0];exact kV
  refine a7 (mv 1 rfl (aB rfl rfl rfl true (dA (a:=bA X) (b:=0) rfl rfl) (mv 5 rfl (pu (v:= .bool true) rfl (a0 (aP rfl (sr (mv 1 rfl (a0 (aM (bL (aL [.int .u64 0] rfl ⟨rfl,trivial⟩ ?_))))))))))))
  exact⟨_,rfl,(show bV .u64 ((0:Nat):Int)=_ by rw [hX0,yJ hD0]),hw2⟩
 · 
  have hXb:bA X≠0:=fun e=>hX0 (kD.1 e)
  by_cases hlo:((bA X:Nat):Int)-((bA D:Nat):Int)< -1200
  · 
   refine a7 (mv 1 rfl (aB rfl rfl rfl false (dC (a:=bA X) (b:=0) rfl rfl) (mv 3 rfl (aE rfl rfl rfl (((bA X:Nat):Int)-((bA D:Nat):Int)) (dM rfl) (aB rfl rfl rfl true (pB hlo) (pu (v:= .bool true) rfl (a0 (aP rfl (sr (mv 1 rfl (a0 (aM (bL ?_)))))))))))))
   refine aL [.int .u64 0] rfl ⟨rfl,trivial⟩ ?_
   exact⟨_,rfl,(show bV .u64 ((0:Nat):Int)=_ by rw [JP hX0 hD0 (by omega)]),hw2⟩
  · 
   refine a7 (mv 1 rfl (aB rfl rfl rfl false (dC (a:=bA X) (b:=0) rfl rfl) (mv 3 rfl (aE rfl rfl rfl (((bA X:Nat):Int)-((bA D:Nat):Int)) (dM rfl) (aB rfl rfl rfl false (mB) (pu (v:= .bool false) rfl (a0 (aI rfl (aN (aD (aA (aA ?_))))))))))))
   by_cases hhi:1200<((bA X:Nat):Int)-((bA D:Nat):Int)
   · 
    refine a7 (mv 2 rfl (aE rfl rfl rfl (((bA X:Nat):Int)-((bA D:Nat):Int)) (dM rfl) (aB rfl rfl rfl true (qS hhi) (a0 (aP rfl (sr (mv 1 rfl (a0 (aM (bL (aL [.int .u64 9218868437227405312] rfl ⟨rfl,trivial⟩ ?_)))))))))))
    exact⟨_,rfl,(show bV .u64 ((9218868437227405312:Nat):Int)=_ by rw [JQ hX0 hD0 (by omega)]),hw2⟩
   · 
    obtain⟨e0,he0⟩:∃e:Int,(((bA X:Nat):Int)-((bA D:Nat):Int))-53=e:=⟨_,rfl⟩
    refine a7 (mv 2 rfl (aE rfl rfl rfl (((bA X:Nat):Int)-((bA D:Nat):Int)) (dM rfl) (aB rfl rfl rfl false (pF) (a0 (aI rfl (aN (aD (sr (mv 2 rfl (aE rfl rfl rfl (((bA X:Nat):Int)-((bA D:Nat):Int)) (dM rfl) (aE rfl rfl rfl e0 (dM he0) (mv 1 rfl (aU ?_)))))))))))))
    refine aD (sr (mv 3 rfl ?_))
    obtain⟨Q1,hQ1⟩:∃Q,qN X e0/qD D e0=Q:=⟨_,rfl⟩
    obtain⟨C1,hC1⟩:∃C,dH (qN X e0%qD D e0*2^1) (qD D e0)=C:=⟨_,rfl⟩
    have hq1:=IR hX0 hD0 he0.symm
    rw [hQ1] at hq1
    have hL1:(wd Q1).length≤1:=fY (by rw [cF,Nat.pow_one];omega)
    refine cl (vs:= [.slice A n c,.slice B n' c',.int .i64 e0]) hw2 (IG hw2.size (hX.ext hw2) (bQ hXn rfl) (hD.ext hw2) (bQ hDn rfl) hD0 (by omega) (by omega) hQ1 hC1) rfl (by kernel_rfl) fun xr9 v7 r9 e8 hw3=>?_
    obtain⟨_,_,rfl,⟨A11,n11,c11,rfl,j11,o11⟩,rfl⟩:=r9
    refine mv 1 rfl (pu (v:= .slice A11 n11 c11) rfl (pu (v:= .int .i64 C1) rfl (mv 2 rfl (a0 (i8 (T:=a6×Int) (fun⟨wr,e1⟩=> [(0,.slice A n c),(1,.slice B n' c'),(7,.int .i64 e1)]) (fun⟨wr,e1⟩=>wr) (fun⟨wr,e1⟩=>(Ext w wr)∧((bA (qN X e0/qD D e0)>53∧e1=e0+1)∨(¬bA (qN X e0/qD D e0)>53∧e1=e0))) ?_ ?_)))))
    · 
     refine aA ?_
     by_cases hb53:53<bA Q1
     · 
      obtain⟨e1,he1⟩:∃e:Int,e0+1=e:=⟨_,rfl⟩
      have hch0:(bA (qN X e0/qD D e0)>53∧e1=e0+1)∨(¬bA (qN X e0/qD D e0)>53∧e1=e0):=cE ⟨by rw [hQ1];exact hb53,he1.symm⟩
      refine a7 (mv 1 rfl (cl (vs:= [.slice A11 n11 c11]) hw3 (tM o11.wi (by rw [j11];exact aG hL1 (by decide))) rfl (by kernel_rfl) fun xr14 v12 r14 e13 hw4=>?_))
      obtain rfl:=r14
      refine aB rfl rfl rfl true (dJ (a:=bA Q1) (b:=53) rfl rfl) (a0 (aP rfl (a7 (mv 1 rfl (aE rfl rfl rfl e1 (lJ (h:=he1)) (mv 1 rfl (aU (dG (⟨v12,e1⟩:a6×Int) ⟨hw4,hch0⟩ rfl ⟨rfl,rfl,rfl,trivial⟩))))))))
     · 
      have hch0:(bA (qN X e0/qD D e0)>53∧e0=e0+1)∨(¬bA (qN X e0/qD D e0)>53∧e0=e0):=bR ⟨by rw [hQ1];exact hb53,rfl⟩
      refine a7 (mv 1 rfl (cl (vs:= [.slice A11 n11 c11]) hw3 (tM o11.wi (by rw [j11];exact aG hL1 (by decide))) rfl (by kernel_rfl) fun xr17 v15 r17 e16 hw4=>?_))
      obtain rfl:=r17
      refine aB rfl rfl rfl false (d6 (a:=bA Q1) (b:=53) rfl rfl) (a0 (aI rfl (aN (dG (⟨v15,e0⟩:a6×Int) ⟨hw4,hch0⟩ rfl ⟨rfl,rfl,rfl,trivial⟩))))
    · 
     rintro⟨wr,e1⟩ ⟨hw1,hch⟩
     refine cC [(0,.slice A n c),(1,.slice B n' c'),(7,.int .i64 e1)] wr rfl ⟨rfl,rfl,rfl,trivial⟩ (i8 (T:=a6×Int) (fun⟨wr,e2⟩=> [(0,.slice A n c),(1,.slice B n' c'),(7,.int .i64 e2)]) (fun⟨wr,e2⟩=>wr) (fun⟨wr,e2⟩=>(Ext w wr)∧(qN X e2/qD D e2<9007199254740992∧(e2= -1074∨4503599627370496≤qN X e2/qD D e2)∧ -1074≤e2)∧(e2≤2000)) ?_ ?_)
     · 
      refine aA ?_
      have he1b:e0≤e1∧e1≤e0+1:=by omega
      by_cases h74:e1< -1074
      · 
       have hst:=IP (e2:= -1074) hX0 hD0 he0.symm hch (cE ⟨h74,rfl⟩)
       refine a7 (mv 1 rfl (aB rfl rfl rfl true (pB h74) (a0 (aP rfl (a7 (mv 1 rfl (aU (dG (⟨wr,-1074⟩:a6×Int) ⟨hw1,hst,(by omega)⟩ rfl ⟨rfl,rfl,rfl,trivial⟩))))))))
      · 
       have hst:=IP (e2:=e1) hX0 hD0 he0.symm hch (bR ⟨h74,rfl⟩)
       refine a7 (mv 1 rfl (aB rfl rfl rfl false (mB) (a0 (aI rfl (aN (dG (⟨wr,e1⟩:a6×Int) ⟨hw1,hst,(by omega)⟩ rfl ⟨rfl,rfl,rfl,trivial⟩))))))
     · 
      rintro⟨wr,e2⟩ ⟨hw1,hst,he2u⟩
      refine cC [(0,.slice A n c),(1,.slice B n' c'),(7,.int .i64 e2)] wr rfl ⟨rfl,rfl,rfl,trivial⟩ (sr (mv 3 rfl ?_))
      obtain⟨Q2,hQ2⟩:∃Q,qN X e2/qD D e2=Q:=⟨_,rfl⟩
      obtain⟨C2,hC2⟩:∃C,dH (qN X e2%qD D e2*2^1) (qD D e2)=C:=⟨_,rfl⟩
      have hL2:(wd Q2).length≤1:=fY (by rw [←hQ2,cF,Nat.pow_one];have:=hst.1;omega)
      refine cl (vs:= [.slice A n c,.slice B n' c',.int .i64 e2]) hw1 (IG hw1.size (hX.ext hw1) (bQ hXn rfl) (hD.ext hw1) (bQ hDn rfl) hD0 (by omega) (by omega) hQ2 hC2) rfl (by kernel_rfl) fun xr20 v18 r20 e19 hw2=>?_
      obtain⟨_,_,rfl,⟨A22,n22,c22,rfl,j22,o22⟩,rfl⟩:=r20
      refine mv 1 rfl (pu (v:= .slice A22 n22 c22) rfl (pu (v:= .int .i64 C2) rfl (mv 2 rfl (a0 (aA ?_)))))
      have hq53:Q2<9007199254740992:=by have:=hst.1;omega
      refine a7 (mv 1 rfl (a0 (i8 (T:=a6×Nat) (fun⟨wr,W2⟩=> [(7,.int .i64 e2),(10,.int .i64 C2),(11,.int .u64 W2)]) (fun⟨wr,W2⟩=>wr) (fun⟨wr,W2⟩=>(Ext w wr)∧(W2=Q2)) ?_ ?_)))
      · 
       refine aA ?_
       by_cases hQ0:Q2=0
       · 
        have hln:n22=0:=by rw [j22];exact jN.2 hQ0
        refine a7 (mv 1 rfl (pu (v:= .int .i64 n22) rfl (aB rfl rfl rfl false (d6 (a:=n22) (b:=0) rfl rfl) (a0 (aI rfl (aN (dG (⟨v18,0⟩:a6×Nat) ⟨hw2,(by omega)⟩ rfl ⟨rfl,rfl,rfl,trivial⟩)))))))
       · 
        have hln:n22≠0:=by rw [j22];exact fun e=>hQ0 (jN.1 e)
        have hq1w:=yO hQ0
        refine a7 (mv 1 rfl (pu (v:= .int .i64 n22) rfl (aB rfl rfl rfl true (dJ (a:=n22) (b:=0) rfl rfl) (a0 (aP rfl (a7 (mv 1 rfl ?_)))))))
        obtain⟨p23,hp23,hc23⟩:=yF o22 j22 hq1w
        refine bT rfl rfl rfl bU bN 0 rfl p23 hp23 (aS rfl rfl (cZ d7 hc23) (mv 1 rfl (aU (dG (⟨v18,Q2⟩:a6×Nat) ⟨hw2,rfl⟩ rfl ⟨rfl,rfl,rfl,trivial⟩)))) (hj:=(by rw [j22,hq1w];decide))
      · 
       rintro⟨wr,W2⟩ ⟨hw1,hw2⟩
       refine cC [(7,.int .i64 e2),(10,.int .i64 C2),(11,.int .u64 W2)] wr rfl ⟨rfl,rfl,rfl,trivial⟩ (i8 (T:=a6×Nat) (fun⟨wr,W4⟩=> [(7,.int .i64 e2),(11,.int .u64 W4)]) (fun⟨wr,W4⟩=>wr) (fun⟨wr,W4⟩=>(Ext w wr)∧(W4=iP (qN X e2/qD D e2) (qN X e2%qD D e2) (qD D e2))∧(W4≤9007199254740992)) ?_ ?_)
       · 
        refine aA ?_
        have hrc:=T0 (q:=Q2) (r:=qN X e2%qD D e2) (G:=qD D e2)
        rw [hC2] at hrc
        by_cases hc2:0<C2
        · 
         rw [if_pos (cE hc2)] at hrc
         refine a7 (mv 1 rfl (aB rfl rfl rfl true (qS hc2) (mv 8 rfl (pu (v:= .bool true) rfl (a0 (aP rfl (a7 (mv 1 rfl (aE rfl rfl rfl ((W2+1:Nat):Int) (eW (a:=W2) (b:=1) rfl rfl) (mv 1 rfl (aU (dG (⟨wr,W2+1⟩:a6×Nat) ⟨hw1,(by rw [hQ2,hrc];omega),(by omega)⟩ rfl ⟨rfl,rfl,trivial⟩))))))))))))
        · 
         by_cases hc0:C2=0
         · 
          by_cases hod:W2%2=1
          · 
           rw [if_pos (bR ⟨hc0,by omega⟩)] at hrc
           refine a7 (mv 1 rfl (aB rfl rfl rfl false (pF) (mv 2 rfl (aB rfl rfl rfl true (gD hc0) (mv 2 rfl (aE rfl rfl rfl ((W2%2:Nat):Int) (fC (a:=W2) (b:=2) rfl rfl) (aB rfl rfl rfl true (dA (a:=W2%2) (b:=1) rfl rfl) (pu (v:= .bool true) rfl (pu (v:= .bool true) rfl (a0 (aP rfl (a7 (mv 1 rfl ?_)))))))))))))
           refine aE rfl rfl rfl ((W2+1:Nat):Int) (eW (a:=W2) (b:=1) rfl rfl) (mv 1 rfl (aU (dG (⟨wr,W2+1⟩:a6×Nat) ⟨hw1,(by rw [hQ2,hrc];omega),(by omega)⟩ rfl ⟨rfl,rfl,trivial⟩)))
          · 
           rw [if_neg (by omega)] at hrc
           refine a7 (mv 1 rfl (aB rfl rfl rfl false (pF) (mv 2 rfl (aB rfl rfl rfl true (gD hc0) (mv 2 rfl (aE rfl rfl rfl ((W2%2:Nat):Int) (fC (a:=W2) (b:=2) rfl rfl) (aB rfl rfl rfl false (dC (a:=W2%2) (b:=1) rfl rfl) (pu (v:= .bool false) rfl (pu (v:= .bool false) rfl (a0 (aI rfl (aN (dG (⟨wr,W2⟩:a6×Nat) ⟨hw1,(by rw [hQ2,hrc];omega),(by omega)⟩ rfl ⟨rfl,rfl,trivial⟩)))))))))))))
         · 
          rw [if_neg (by omega)] at hrc
          refine a7 (mv 1 rfl (aB rfl rfl rfl false (pF) (mv 2 rfl (aB rfl rfl rfl false (jH hc0) (mv 4 rfl (pu (v:= .bool false) rfl (pu (v:= .bool false) rfl (a0 (aI rfl (aN (dG (⟨wr,W2⟩:a6×Nat) ⟨hw1,(by rw [hQ2,hrc];omega),(by omega)⟩ rfl ⟨rfl,rfl,trivial⟩)))))))))))
       · 
        rintro⟨wr,W4⟩ ⟨hw1,hw4,hw4u⟩
        refine cC [(7,.int .i64 e2),(11,.int .u64 W4)] wr rfl ⟨rfl,rfl,trivial⟩ (i8 (T:=a6×Int×Nat) (fun⟨wr,e3,W5⟩=> [(7,.int .i64 e3),(11,.int .u64 W5)]) (fun⟨wr,e3,W5⟩=>wr) (fun⟨wr,e3,W5⟩=>(Ext w wr)∧(NQ X D e3 W5)∧(e3≤2001)) ?_ ?_)
        · 
         refine aA ?_
         by_cases h53:W4=9007199254740992
         · 
          obtain⟨e3,he3⟩:∃e:Int,e2+1=e:=⟨_,rfl⟩
          have hnq0:NQ X D e3 4503599627370496:=JI hD0 hst.2.2 hst.1 hst.2.1 (cE ⟨by rw [←hw4];exact h53,rfl,he3.symm⟩)
          refine a7 (mv 1 rfl (aB rfl rfl rfl true (dA (a:=W4) (b:=9007199254740992) rfl rfl) (a0 (aP rfl (sr (mv 1 rfl (a0 (a7 (mv 1 rfl (aE rfl rfl rfl e3 (lJ (h:=he3)) (mv 1 rfl (aU (dG (⟨wr,e3,4503599627370496⟩:a6×Int×Nat) ⟨hw1,hnq0,(by omega)⟩ rfl ⟨rfl,rfl,trivial⟩)))))))))))))
         · 
          have hnq0:NQ X D e2 W4:=JI hD0 hst.2.2 hst.1 hst.2.1 (bR ⟨by rw [←hw4];exact h53,hw4,rfl⟩)
          refine a7 (mv 1 rfl (aB rfl rfl rfl false (dC (a:=W4) (b:=9007199254740992) rfl rfl) (a0 (aI rfl (aN (dG (⟨wr,e2,W4⟩:a6×Int×Nat) ⟨hw1,hnq0,(by omega)⟩ rfl ⟨rfl,rfl,trivial⟩))))))
        · 
         rintro⟨wr,e3,W5⟩ ⟨hw1,hnq,he3u⟩
         refine cC [(7,.int .i64 e3),(11,.int .u64 W5)] wr rfl ⟨rfl,rfl,trivial⟩ (aA (aA ?_))
         have hq5:=hnq.lt
         have hq6:=hnq.low
         by_cases h971:971<e3
         · 
          refine a7 (mv 1 rfl (aB rfl rfl rfl true (qS h971) (a0 (aP rfl (sr (mv 1 rfl (a0 (aM (bL (aL [.int .u64 9218868437227405312] rfl ⟨rfl,trivial⟩ ?_))))))))))
          exact⟨_,rfl,(show bV .u64 ((9218868437227405312:Nat):Int)=_ by rw [hnq.inf h971]),hw1⟩
         · 
          refine a7 (mv 1 rfl (aB rfl rfl rfl false (pF) (a0 (aI rfl (aN (aD (aA (aA ?_))))))))
          by_cases h52:W5<4503599627370496
          · 
           refine a7 (mv 1 rfl (aB rfl rfl rfl true (dB (a:=W5) (b:=4503599627370496) rfl rfl) (a0 (aP rfl (sr (mv 2 rfl (a0 (aM (bL (aL [.int .u64 W5] rfl ⟨rfl,trivial⟩ ?_))))))))))
           exact⟨_,rfl,(show bV .u64 ((W5:Nat):Int)=_ by rw [hnq.sub h52]),hw1⟩
          · 
           obtain⟨q,hq7⟩:∃q:Nat,e3+1075=(q:Int):=⟨(e3+1075).toNat,by omega⟩
           refine a7 (mv 1 rfl (aB rfl rfl rfl false (cX (a:=W5) (b:=4503599627370496) rfl rfl) (a0 (aI rfl (aN (aD (sr (mv 1 rfl (aE rfl rfl rfl ((q:Nat):Int) (lJ (h:=hq7)) (bD rfl rfl (v:= .int .u64 (IntKind.u64.wrap ((q:Nat):Int))) (v':= .int .u64 q) (eD (by first | omega | exact (by omega))) (aE rfl rfl rfl ((q*4503599627370496:Nat):Int) (lX (a:=q) (b:=4503599627370496) rfl rfl) (mv 1 rfl (aE rfl rfl rfl (((q*4503599627370496)+W5:Nat):Int) (eW (a:=q*4503599627370496) (b:=W5) rfl rfl) ?_)))))))))))))
           refine aE rfl rfl rfl ((((q*4503599627370496)+W5)-4503599627370496:Nat):Int) (qW (a:=(q*4503599627370496)+W5) (b:=4503599627370496) rfl rfl) (mv 1 rfl (a0 (aM (aL [.int .u64 ((((q*4503599627370496)+W5)-4503599627370496:Nat):Int)] rfl ⟨rfl,trivial⟩ ?_))))
           exact⟨_,rfl,(show bV .u64 ((((q*4503599627370496)+W5)-4503599627370496:Nat):Int)=_ by rw [hnq.mid (by omega) h52,show (e3+1075).toNat=q by omega]),hw1⟩
theorem UD {w:a6}(hM:cU (X*2^bM) D=M)(hX:Wi w A n c X)(hXn:n≤2000000)(hD:Wi w B n' c' D)(hDn:n'≤2000000)(hD0:0<D):aO aF 222 #[.slice A n c,.slice B n' c'] w (Gv w (Is (.int .u64 M))):=by subst hM;exact UE hX hXn hD hDn hD0
set_option maxHeartbeats 4000000 in
theorem tE {w:a6}(hX:Wi w A n c X)(hXn:n≤2000000)(hD:Wi w B n' c' D)(hDn:n'≤2000000)(hD0:0<D:=by omega):
    aO aF 183 #[.slice A n c,.slice B n' c',.bool ng] w (Gv w (Is (.int .u64 ((dV ng (cU (X*2^bM) D):Nat):Int)))):=by
 obtain⟨M,hM⟩:∃M,cU (X*2^bM) D=M:=⟨_,rfl⟩
 have hMb:M≤9218868437227405312:=by rw [←hM];exact qL _ _
 refine bK Tryz.func183 rfl (n:=20) rfl (bq rfl) (args:= [.slice A n c,.slice B n' c',.bool ng]) (bE [(0,.slice A n c),(1,.slice B n' c'),(2,.bool ng)] ⟨rfl,rfl,rfl,trivial⟩ (sr (mv 1 rfl (a0 (sr (mv 2 rfl (cl (vs:= [.slice A n c,.slice B n' c']) (Ext.refl w) (UD hM hX (bQ hXn rfl) hD (bQ hDn rfl) hD0) rfl (by kernel_rfl) fun xr3 v1 r3 e2 hw1=>?_)))))))
 obtain rfl:=r3
 refine mv 1 rfl (a0 (aA (aA ?_)))
 by_cases hM0:M=0
 · 
  refine a7 (mv 1 rfl (aB rfl rfl rfl true (dA (a:=M) (b:=0) rfl rfl) (mv 3 rfl (pu (v:= .bool true) rfl (a0 (aP rfl (sr (mv 2 rfl (a0 (aM (bL (aL [.int .u64 M] rfl ⟨rfl,trivial⟩ ?_))))))))))))
  exact⟨_,rfl,(show bV .u64 ((M:Nat):Int)=_ by rw [hM];unfold dV;rw [if_neg (by simp [hM0])]),hw1⟩
 · 
  cases ng
  · 
   refine a7 (mv 1 rfl (aB rfl rfl rfl false (dC (a:=M) (b:=0) rfl rfl) (mv 2 rfl (pu (v:= .bool true) rfl (pu (v:= .bool true) rfl (a0 (aP rfl (sr (mv 2 rfl (a0 (aM (bL (aL [.int .u64 M] rfl ⟨rfl,trivial⟩ ?_)))))))))))))
   exact⟨_,rfl,(show bV .u64 ((M:Nat):Int)=_ by rw [hM];unfold dV;rw [if_neg (by simp [hM0])]),hw1⟩
  · 
   refine a7 (mv 1 rfl (aB rfl rfl rfl false (dC (a:=M) (b:=0) rfl rfl) (mv 2 rfl (pu (v:= .bool false) rfl (pu (v:= .bool false) rfl (a0 (aI rfl (aN (aD (sr (mv 1 rfl (aE rfl rfl rfl ((M+9223372036854775808:Nat):Int) (eW (a:=M) (b:=9223372036854775808) rfl rfl) (mv 1 rfl ?_)))))))))))))
   refine a0 (aM (aL [.int .u64 ((M+9223372036854775808:Nat):Int)] rfl ⟨rfl,trivial⟩ ?_))
   exact⟨_,rfl,(show bV .u64 ((M+9223372036854775808:Nat):Int)=_ by rw [hM];unfold dV;rw [if_pos ⟨rfl,hM0⟩]),hw1⟩
set_option maxHeartbeats 4000000 in
theorem vC {w:a6}(hb:f<18446744073709551616)(hf:fin f):
    aO aF 112 #[.int .u64 f] w (Gv w (Is (.bool true))):=by
 have hfl:gC f≠2047:=qU.1 hf
 unfold gC at hfl
 refine bK Tryz.func112 rfl (n:=7) rfl (bq rfl) (args:= [.int .u64 f]) (bE [(0,.int .u64 f)] ⟨rfl,trivial⟩ (sr (mv 1 rfl (a0 (sr (mv 1 rfl (aE rfl rfl rfl ((f/4503599627370496:Nat):Int) (iR (a:=f) (b:=4503599627370496) rfl rfl) (aE rfl rfl rfl (((f/4503599627370496)%2048:Nat):Int) (fC (a:=f/4503599627370496) (b:=2048) rfl rfl) (aB rfl rfl rfl true (wC (a:=(f/4503599627370496)%2048) (b:=2047) rfl rfl) (mv 1 rfl (a0 (aM (aL [.bool true] rfl ⟨rfl,trivial⟩ ?_)))))))))))))
 exact⟨_,rfl,rfl,(Ext.refl w)⟩
set_option maxHeartbeats 4000000 in
theorem vD {w:a6}(hb:f<18446744073709551616)(hf:¬fin f):
    aO aF 112 #[.int .u64 f] w (Gv w (Is (.bool false))):=by
 have hfl:¬gC f≠2047:=fun h=>hf (qU.2 h)
 unfold gC at hfl
 refine bK Tryz.func112 rfl (n:=7) rfl (bq rfl) (args:= [.int .u64 f]) (bE [(0,.int .u64 f)] ⟨rfl,trivial⟩ (sr (mv 1 rfl (a0 (sr (mv 1 rfl (aE rfl rfl rfl ((f/4503599627370496:Nat):Int) (iR (a:=f) (b:=4503599627370496) rfl rfl) (aE rfl rfl rfl (((f/4503599627370496)%2048:Nat):Int) (fC (a:=f/4503599627370496) (b:=2048) rfl rfl) (aB rfl rfl rfl false (lU (a:=(f/4503599627370496)%2048) (b:=2047) rfl rfl) (mv 1 rfl (a0 (aM (aL [F0] rfl ⟨rfl,trivial⟩ ?_)))))))))))))
 exact⟨_,rfl,rfl,(Ext.refl w)⟩
set_option maxHeartbeats 4000000 in
theorem UC {w:a6}(hb:f<18446744073709551616)(hf:fin f):
    aO aF 214 #[.int .u64 f] w (Gv w (Is (.bool false))):=by
 have hfl:gC f≠2047:=qU.1 hf
 unfold gC at hfl
 refine bK Tryz.func214 rfl (n:=12) rfl (bq rfl) (args:= [.int .u64 f]) (bE [(0,.int .u64 f)] ⟨rfl,trivial⟩ (sr (mv 1 rfl (a0 (sr (mv 1 rfl (aE rfl rfl rfl ((f/4503599627370496:Nat):Int) (iR (a:=f) (b:=4503599627370496) rfl rfl) (aE rfl rfl rfl (((f/4503599627370496)%2048:Nat):Int) (fC (a:=f/4503599627370496) (b:=2048) rfl rfl) (aB rfl rfl rfl false (dC (a:=(f/4503599627370496)%2048) (b:=2047) rfl rfl) (mv 4 rfl (pu (v:= .bool false) rfl (mv 1 rfl (aU ?_)))))))))))))
 refine aD (aM (aL [F0] rfl ⟨rfl,trivial⟩ ?_))
 exact⟨_,rfl,rfl,(Ext.refl w)⟩
set_option maxHeartbeats 4000000 in
theorem II {w:a6}(hb:f<18446744073709551616)(hf:¬fin f)(hm:f%4503599627370496=0):
    aO aF 214 #[.int .u64 f] w (Gv w (Is (.bool false))):=by
 have hfl:¬gC f≠2047:=fun h=>hf (qU.2 h)
 unfold gC at hfl
 refine bK Tryz.func214 rfl (n:=12) rfl (bq rfl) (args:= [.int .u64 f]) (bE [(0,.int .u64 f)] ⟨rfl,trivial⟩ (sr (mv 1 rfl (a0 (sr (mv 1 rfl (aE rfl rfl rfl ((f/4503599627370496:Nat):Int) (iR (a:=f) (b:=4503599627370496) rfl rfl) (aE rfl rfl rfl (((f/4503599627370496)%2048:Nat):Int) (fC (a:=f/4503599627370496) (b:=2048) rfl rfl) (aB rfl rfl rfl true (dA (a:=(f/4503599627370496)%2048) (b:=2047) rfl rfl) (mv 2 rfl (aE rfl rfl rfl ((f%4503599627370496:Nat):Int) (fC (a:=f) (b:=4503599627370496) rfl rfl) (aB rfl rfl rfl false (lU (a:=f%4503599627370496) (b:=0) rfl rfl) (pu (v:= .bool false) rfl ?_)))))))))))))
 refine mv 1 rfl (a0 (aM (aL [F0] rfl ⟨rfl,trivial⟩ ?_)))
 exact⟨_,rfl,rfl,(Ext.refl w)⟩
set_option maxHeartbeats 4000000 in
theorem UB {w:a6}(hb:f<18446744073709551616)(hf:¬fin f)(hm:f%4503599627370496≠0):
    aO aF 214 #[.int .u64 f] w (Gv w (Is (.bool true))):=by
 have hfl:¬gC f≠2047:=fun h=>hf (qU.2 h)
 unfold gC at hfl
 refine bK Tryz.func214 rfl (n:=12) rfl (bq rfl) (args:= [.int .u64 f]) (bE [(0,.int .u64 f)] ⟨rfl,trivial⟩ (sr (mv 1 rfl (a0 (sr (mv 1 rfl (aE rfl rfl rfl ((f/4503599627370496:Nat):Int) (iR (a:=f) (b:=4503599627370496) rfl rfl) (aE rfl rfl rfl (((f/4503599627370496)%2048:Nat):Int) (fC (a:=f/4503599627370496) (b:=2048) rfl rfl) (aB rfl rfl rfl true (dA (a:=(f/4503599627370496)%2048) (b:=2047) rfl rfl) (mv 2 rfl (aE rfl rfl rfl ((f%4503599627370496:Nat):Int) (fC (a:=f) (b:=4503599627370496) rfl rfl) (aB rfl rfl rfl true (wC (a:=f%4503599627370496) (b:=0) rfl rfl) (pu (v:= .bool true) rfl ?_)))))))))))))
 refine mv 1 rfl (a0 (aM (aL [.bool true] rfl ⟨rfl,trivial⟩ ?_)))
 exact⟨_,rfl,rfl,(Ext.refl w)⟩
set_option maxHeartbeats 4000000 in
theorem vB {w:a6}(hb:f<18446744073709551616):
    aO aF 113 #[.int .u64 f] w (Gv w (T2 (Is (.int .u64 ((pm f:Nat):Int))) (Is (.int .i64 (((pe f:Nat):Int)+ -1074))))):=by
 refine bK Tryz.func113 rfl (n:=19) rfl (bq rfl) (args:= [.int .u64 f]) (bE [(0,.int .u64 f)] ⟨rfl,trivial⟩ (sr (mv 2 rfl (a0 (sr (mv 1 rfl (aE rfl rfl rfl ((f/4503599627370496:Nat):Int) (iR (a:=f) (b:=4503599627370496) rfl rfl) (aE rfl rfl rfl (((f/4503599627370496)%2048:Nat):Int) (fC (a:=f/4503599627370496) (b:=2048) rfl rfl) (mv 1 rfl (a0 (sr (mv 1 rfl (aE rfl rfl rfl ((f%4503599627370496:Nat):Int) (fC (a:=f) (b:=4503599627370496) rfl rfl) ?_)))))))))))))
 refine mv 1 rfl (a0 (aA (aA ?_)))
 by_cases hx0:(f/4503599627370496)%2048=0
 · 
  refine a7 (mv 1 rfl (aB rfl rfl rfl true (dA (a:=(f/4503599627370496)%2048) (b:=0) rfl rfl) (a0 (aP rfl (sr (mv 3 rfl (a0 (aM (bL (aL [.int .u64 ((f%4503599627370496:Nat):Int),.int .i64 (-1074)] rfl ⟨rfl,rfl,trivial⟩ ?_))))))))))
  exact⟨_,rfl,⟨_,_,rfl,(show bV .u64 ((f%4503599627370496:Nat):Int)=_ by unfold pm gC;rw [if_pos hx0]),(show bV .i64 (-1074)=_ by unfold pe gC;rw [hx0];rfl)⟩,(Ext.refl w)⟩
 · 
  refine a7 (mv 1 rfl (aB rfl rfl rfl false (dC (a:=(f/4503599627370496)%2048) (b:=0) rfl rfl) (a0 (aI rfl (aN (aD (aA ?_)))))))
  have hpe:(((f/4503599627370496)%2048:Nat):Int)-1075=((pe f:Nat):Int)+ -1074:=by unfold pe gC;omega
  have hfl2:=zE f
  unfold gC at hfl2
  refine a7 (mv 1 rfl (aE rfl rfl rfl (((f%4503599627370496)+4503599627370496:Nat):Int) (eW (a:=f%4503599627370496) (b:=4503599627370496) rfl rfl) (mv 1 rfl (bD rfl rfl (v:= .int .i64 (IntKind.i64.wrap (((f/4503599627370496)%2048:Nat):Int))) (v':= .int .i64 (((f/4503599627370496)%2048:Nat):Int)) (lS (by first | omega | exact hle64)) (aE rfl rfl rfl (((pe f:Nat):Int)+ -1074) (dM hpe) (mv 2 rfl (a0 (aM (aL [.int .u64 (((f%4503599627370496)+4503599627370496:Nat):Int),.int .i64 (((pe f:Nat):Int)+ -1074)] rfl ⟨rfl,rfl,trivial⟩ ?_)))))))))
  exact⟨_,rfl,⟨_,_,rfl,(show bV .u64 (((f%4503599627370496)+4503599627370496:Nat):Int)=_ by unfold pm gC;rw [if_neg hx0]),rfl⟩,(Ext.refl w)⟩
theorem R5 {rest:Nat}(hj:0<j)(hjl:j≤l.length)(hl:l.length=ds.length)(h:nb 65536 (ds.drop j)=p*nb 65536 (l.drop j)+rest):
  nb 65536 (ds.drop (j-1))=p*nb 65536 ((l.set (j-1) ((rest*65536+ds.getD (j-1) 0)/p)).drop (j-1))+(rest*65536+ds.getD (j-1) 0)%p:=by
 have e1:ds.drop (j-1)=ds.getD (j-1) 0::ds.drop j:=by
  rw [m4 (by omega),show j-1+1=j by omega,bC,cJ (by omega)];rfl
 have e2:(l.set (j-1) ((rest*65536+ds.getD (j-1) 0)/p)).drop (j-1)=((rest*65536+ds.getD (j-1) 0)/p)::l.drop j:=by
  rw [m4 (by rw [List.length_set];omega),List.getElem_set_self,show j-1+1=j by omega,List.drop_set_of_lt (by omega)]
 rw [e1,e2]
 generalize ds.getD (j-1) 0=d at*
 show d+65536*nb 65536 (ds.drop j)=p*((rest*65536+d)/p+65536*nb 65536 (l.drop j))+(rest*65536+d)%p
 have h1:=iA (rest*65536+d) p
 rw [h,cT p,cT 65536,←bH 65536 p,bY 65536 p,bH p]
 omega
theorem R7 {rest:Nat}(h:rest<p)(hd:d<65536):(rest*65536+d)/p<65536:=by
 rw [k0 (by omega)]
 have:(rest+1)*65536≤p*65536:=eA _ h
 omega
theorem WM (b:Nat)(hb:0<b)(ds:List Nat)(q:Nat)(hw:Wfb b ds)(hq:q≤ds.length):nb b (ds.drop q)=nb b ds/b^q:=by
 have h:=rP b (ds.take q) (ds.drop q)
 rw [List.take_append_drop,bJ,fT hq] at h
 have h2:nb b (ds.take q)<b^q:=by
  have h3:=nX (b:=b) (xs:=ds.take q) (fun x hx=>hw x (List.mem_of_mem_take hx))
  rwa [bJ,fT hq] at h3
 rw [h,uD _ _ (eP hb),gT h2,f9]
theorem R8 {rest:Nat}(hp:p=2^(n%16))(hr:rest<p)(hq:n/16≤(db 65536 X).length)(h:nb 65536 ((db 65536 X).drop (n/16))=p*nb 65536 l+rest):nb 65536 l=X/2^n:=by
 rw [WM 65536 (by decide) _ _ (kY (by decide) X) hq,iB fP] at h
 have e:(2:Nat)^n=65536^(n/16)*p:=by
  rw [hp,show (65536:Nat)=2^16 from rfl,←Nat.pow_mul,←bX,iA]
 rw [e,←Nat.div_div_eq_div_mul,h,Nat.add_comm,uD _ _ (by omega),gT hr,f9]
theorem R6 (h:(db 65536 X).length≤n/16):X/2^n=0:=by
 refine gT ?_
 have h1:=nX (kY (b:=65536) (by decide) X)
 rw [iB fP] at h1
 refine dF h1 (aG (dU (by decide) h) ?_)
 rw [show (65536:Nat)=2^16 from rfl,←Nat.pow_mul]
 exact dU (by decide) (by omega)
theorem Ri.drop {w:a6}(h:Ri b w A n c xs)(hk:k≤n):Ri b w (if c=k then A else A.map (·.add (k*1))) (n-k) (c-k) (xs.drop k):=by
 have hle:=h.rv.le
 have hl:=h.len
 refine⟨⟨by rw [List.length_map,cV,hl,cI],by omega,by have:=h.rv.max;omega,fun i hi=>?_,fun a ha hc=>?_⟩,fun x hx=>h.wf x (List.mem_of_mem_drop hx)⟩
 ·rw [if_neg (by omega)]
  obtain⟨a,rfl,hc⟩:=h.rv.get (k+i) (by omega)
  refine⟨a.add (k*1),rfl,?_⟩
  rw [cI,Addr.add_add,hc]
  simp [bC,kK,List.getElem?_drop]
 ·rw [if_neg (by omega)] at ha
  cases A with
  | none=>cases ha
  | some p=>
   cases ha
   rw [pJ]
   exact h.rv.blk p rfl (by omega)
theorem YX {w:a6}(hb:b≤w.heap.size)(hM:nb 65536 l=M)(h:Bk w g 3 (l.map I6))(hw:Wfb 65536 l)(hl:l.length=N)(hN:N≤1099511627775):aO aF 179 #[.slice (some ⟨g,0,none⟩) N N] w (Gv w (WR b M)):=by
 subst hM;exact L9 hb (h.ri0 hw hl (by omega)) hN
set_option maxHeartbeats 4000000 in
theorem V1 {w:a6}(hx:Rd w A m c xs)(hm:m≤2097152)(hn:n≤1048576):
    aO aF 115 #[.slice A m c,.int .i64 n] w (Gv w (T2 (WR w.heap.size (nv xs/2^n)) (Is (.int .i64 0)))):=by
 have hdl:=yP hx
 obtain⟨p,hp⟩:∃p,p=2^(n%16):=⟨_,rfl⟩
 have hpb:p≤32768:=by rw [hp];exact CA (b8 _) (by omega)
 have hpp:0<p:=by rw [hp];exact dW _
 have hLn:(wd (nv xs/2^n)).length≤2097152:=aG (gZ (fI _ _)) (aG (KJ hx) hm)
 refine bK Tryz.func115 rfl (n:=56) rfl (bq rfl) (args:= [.slice A m c,.int .i64 n]) (bE [(0,.slice A m c),(1,.int .i64 n)] ⟨rfl,rfl,trivial⟩ (sr (mv 2 rfl (a0 (aA (sr (mv 1 rfl (aB rfl rfl rfl false (cX (a:=n) (b:=0) rfl rfl) (a0 (aI rfl (aN (aD (aA ?_)))))))))))))
 refine a7 (mv 1 rfl (cl (vs:= [.slice A m c]) (Ext.refl w) (yW hx) rfl (by kernel_rfl) fun xr3 v1 r3 e2 hw1=>?_))
 obtain⟨XA,xn,xc,rfl,rdx⟩:=r3
 have hxn:=rdx.len
 refine mv 1 rfl (a0 (aA (aA ?_)))
 by_cases hnx:n/16≥xn
 · 
  refine a7 (mv 1 rfl (aE rfl rfl rfl ((n/16:Nat):Int) (iS (a:=n) (b:=16) rfl rfl) (mv 1 rfl (pu (v:= .int .i64 xn) rfl (aB rfl rfl rfl true (eI (a:=n/16) (b:=xn) rfl rfl) (a0 (aP rfl (sr (mv 2 rfl (a0 (aM (bL (aL [S0,I0] rfl ⟨rfl,rfl,trivial⟩ ?_)))))))))))))
  exact⟨_,rfl,⟨_,_,rfl,(by rw [R6 (by omega)];exact EV),rfl⟩,hw1⟩
 · 
  refine a7 (mv 1 rfl (aE rfl rfl rfl ((n/16:Nat):Int) (iS (a:=n) (b:=16) rfl rfl) (mv 1 rfl (pu (v:= .int .i64 xn) rfl (aB rfl rfl rfl false (iF (a:=n/16) (b:=xn) rfl rfl) (a0 (aI rfl (aN (aD (sr (mv 2 rfl (aE rfl rfl rfl ((n/16:Nat):Int) (iS (a:=n) (b:=16) rfl rfl) (jT rfl rfl nR mM (lo:=n/16) (hi:=xn) rfl rfl (by omega) (by have:=rdx.rv.le;omega) (v:= .slice (if xc=n/16 then XA else XA.map (·.add ((n/16)*1))) (xn-(n/16)) (xc-(n/16))) (uR _ _ _ _) (by decide) ?_)))))))))))))
  refine mv 1 rfl (a0 (sr (mv 1 rfl (aE rfl rfl rfl ((n%16:Nat):Int) (fC (a:=n) (b:=16) rfl rfl) (cl (vs:= [.int .i64 ((n%16:Nat):Int)]) hw1 (IM hp (by omega)) rfl (by kernel_rfl) fun xr6 v4 r6 e5 hw2=>?_)))))
  obtain rfl:=r6
  refine mv 1 rfl (a0 (sr (mv 1 rfl (pu (v:= .int .i64 ((xn-(n/16):Nat):Int)) rfl (l7 rfl (k:=xn-(n/16)) rfl rfl rfl nR mX rfl fun g7 v8 hg9 hb10 e11=>?_)))))
  rw [uY] at hb10
  have ge12:w.heap.size≤g7:=by rw [←hg9];exact hw2.size
  have ne14:0<c→∀a,A=some a→a.block≠g7:=fun hc a ha=>by have:=((hx.ext (e2.trans e5))).rv.blk a ha hc;omega
  have ne15:0<xc→∀a,XA=some a→a.block≠g7:=fun hc a ha=>by have:=((rdx.ext e5)).rv.blk a ha hc;omega
  have ne16:0<xc-(n/16)→∀a,(if xc=n/16 then XA else XA.map (·.add ((n/16)*1)))=some a→a.block≠g7:=fun hc a ha=>by have:=(((rdx.drop (k:=n/16) (by omega)).ext e5)).rv.blk a ha hc;omega
  clear hg9
  have hw3:=hw2.trans e11
  refine mv 1 rfl (a0 (sr (mv 1 rfl (a0 (aA (sr (mv 1 rfl (pu (v:= .int .i64 ((xn-(n/16):Nat):Int)) rfl (aE rfl rfl rfl (((xn-(n/16):Nat):Int)-1) (dM rfl) (mv 1 rfl (a0 (bG ?_))))))))))))
  refine d4 (T:=a6×Nat×Nat×List Nat)
   (fun⟨wr,j,rest,l⟩=> [(6,.slice (if xc=n/16 then XA else XA.map (·.add ((n/16)*1))) (xn-(n/16)) (xc-(n/16))),(7,.int .i64 p),(8,.slice (some ⟨g7,0,none⟩) (xn-(n/16)) (xn-(n/16))),(9,.int .i64 rest),(10,.int .i64 (((j:Nat):Int)-1))])
   (fun⟨wr,j,rest,l⟩=>wr)
   (fun⟨wr,j,rest,l⟩=>(Ext w wr)∧(j≤(xn-n/16))∧(Bk wr g7 3 (l.map I6))∧(l.length=(xn-n/16))∧(Wfb 65536 l)∧(rest<p)∧(nb 65536 (((db 65536 (nv xs)).drop (n/16)).drop j)=p*nb 65536 (l.drop j)+rest)∧(Ri 65536 wr (if xc=n/16 then XA else XA.map (·.add ((n/16)*1))) (xn-(n/16)) (xc-(n/16)) ((db 65536 (nv xs)).drop (n/16))))
   (fun⟨wr,j,rest,l⟩=>j)
   (⟨v8,(xn-n/16),0,_⟩:a6×Nat×Nat×List Nat) ⟨hw3,(b8 _),hb10,(List.length_replicate (n:=xn-(n/16)) (a:=0)),(pL _),hpp,(by rw [List.drop_of_length_le (by rw [cV];omega),List.drop_of_length_le (by rw [List.length_replicate];omega)];rfl),((rdx.drop (k:=n/16) (by omega)).ext (e5.trans e11))⟩ rfl ⟨rfl,rfl,rfl,rfl,rfl,trivial⟩ ?_
  rintro⟨wr,j,rest,l⟩ ⟨hw1,hj,hB,hll,hwl,hre,hv,rl6⟩
  refine cC [(6,.slice (if xc=n/16 then XA else XA.map (·.add ((n/16)*1))) (xn-(n/16)) (xc-(n/16))),(7,.int .i64 p),(8,.slice (some ⟨g7,0,none⟩) (xn-(n/16)) (xn-(n/16))),(9,.int .i64 rest),(10,.int .i64 (((j:Nat):Int)-1))] wr rfl ⟨rfl,rfl,rfl,rfl,rfl,trivial⟩ (aA (aA ?_))
  by_cases hj0:0<j
  · 
   have hj1:((j:Nat):Int)-1=((j-1:Nat):Int):=by omega
   refine bE [(6,.slice (if xc=n/16 then XA else XA.map (·.add ((n/16)*1))) (xn-(n/16)) (xc-(n/16))),(7,.int .i64 p),(8,.slice (some ⟨g7,0,none⟩) (xn-(n/16)) (xn-(n/16))),(9,.int .i64 rest),(10,.int .i64 (((j:Nat):Int)-1))] ⟨rfl,rfl,rfl,rfl,rfl,trivial⟩ ?_
   rw [hj1]
   refine a7 (mv 1 rfl (aB rfl rfl rfl true (eI (a:=j-1) (b:=0) rfl rfl) (a0 (aP rfl (aN (aD (aA (bG (aA ?_)))))))))
   have hdb:((db 65536 (nv xs)).drop (n/16)).getD (j-1) 0<65536:=iY rl6.wf _
   have hre2:rest≤32768:=by omega
   refine a7 (mv 1 rfl (aE rfl rfl rfl ((rest*65536:Nat):Int) (nB (a:=rest) (b:=65536) rfl rfl) (mv 2 rfl ?_)))
   obtain⟨p17,hp17,hc17,hv17⟩:=(rl6).at (by decide) (i:=j-1) (by omega)
   refine bT rfl rfl rfl nR mM (j-1) rfl p17 hp17 (aS rfl rfl (cZ zY hc17) (aE rfl rfl rfl (((rest*65536)+(((db 65536 (nv xs)).drop (n/16)).getD (j-1) 0):Nat):Int) (bF (a:=rest*65536) (b:=((db 65536 (nv xs)).drop (n/16)).getD (j-1) 0) rfl rfl) (mv 1 rfl (a0 (aA ?_)))))
   have hsq:=fI (rest*65536+((db 65536 (nv xs)).drop (n/16)).getD (j-1) 0) p
   refine a7 (mv 4 rfl (aE rfl rfl rfl ((((rest*65536)+(((db 65536 (nv xs)).drop (n/16)).getD (j-1) 0))/p:Nat):Int) (iS (a:=(rest*65536)+(((db 65536 (nv xs)).drop (n/16)).getD (j-1) 0)) (b:=p) rfl rfl) (bT rfl rfl rfl nR mM (j-1) rfl ⟨g7,j-1,none⟩ (dP _ _) ?_)))
   have hb19:=hB
   refine eB rfl rfl rfl mM rfl hb19 (fK (by rw [hll];omega)) rfl ((l.set (j-1) (((rest*65536)+(((db 65536 (nv xs)).drop (n/16)).getD (j-1) 0))/p)).map I6) (qP _ _ _) fun v18 hb20 u21 hs22=>?_
   have hw2:=u21.ext hw1 ge12
   refine a0 ?_
   have hsm:=Nat.mod_le (rest*65536+((db 65536 (nv xs)).drop (n/16)).getD (j-1) 0) p
   refine a7 (mv 2 rfl (aE rfl rfl rfl ((((rest*65536)+(((db 65536 (nv xs)).drop (n/16)).getD (j-1) 0))%p:Nat):Int) (fC (a:=(rest*65536)+(((db 65536 (nv xs)).drop (n/16)).getD (j-1) 0)) (b:=p) rfl rfl) (mv 1 rfl (aU (cA (aD (a7 (mv 1 rfl (aE rfl rfl rfl (((j-1:Nat):Int)-1) (dM rfl) (mv 1 rfl (aU (cH (⟨v18,j-1,(rest*65536+((db 65536 (nv xs)).drop (n/16)).getD (j-1) 0)%p,_⟩:a6×Nat×Nat×List Nat) ⟨hw2,(by omega),hb20,(hJ (l:=l) (hll)),(iX hwl _ (hx:=(R7 hre hdb))),(eO _ hpp),(R5 hj0 (by omega) (by rw [cV];omega) hv),(Ri.updL rl6 u21 ne16)⟩ (show j-1<j by omega) rfl ⟨rfl,rfl,rfl,rfl,rfl,trivial⟩))))))))))))
  · 
   refine a7 (mv 1 rfl (aB rfl rfl rfl false (jG) (a0 (aI rfl (cR (cN (cP (cQ (aD (sr (mv 1 rfl ?_)))))))))))
   have hj0:j=0:=by omega
   subst hj0
   rw [gU,gU] at hv
   have hend:=R8 hp hre (by omega) hv
   refine cl (vs:= [.slice (some ⟨g7,0,none⟩) (xn-(n/16)) (xn-(n/16))]) hw1 (YX hw1.size hend hB hwl hll (by omega)) rfl (by kernel_rfl) fun xr25 v23 r25 iE hw2=>?_
   obtain⟨A26,n26,c26,rfl,j26,o26⟩:=r25
   refine mv 2 rfl (a0 (aM (aL [.slice A26 n26 c26,I0] rfl ⟨rfl,rfl,trivial⟩ ?_)))
   exact⟨_,rfl,⟨_,_,rfl,⟨_,_,_,rfl,j26,o26⟩,rfl⟩,hw2⟩
theorem V0 {w:a6}(hb:b≤w.heap.size)(hx:Wi w A m c X)(hm:m≤2097152)(hn:n≤1048576):aO aF 115 #[.slice A m c,.int .i64 n] w (Gv w (T2 (WR b (X/2^n)) (Is (.int .i64 0)))):=by
 obtain⟨xs,h1,rfl⟩:=hx
 exact (V1 h1 hm hn).mono (Gv.imp (T2.imp (WR.imp hb) Is.imp))
end
end Go.Proofs.YtkepckmdjncehaaGreatDoor
