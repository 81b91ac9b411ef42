/- Parts R7x, R7y, Strg, Ats, Atw, R7z, R7w, Apd, Lw7, Lw7u, Lw7v, Lw7x, Lw7y, joined. -/
import Derived.Test.YtkepckmdjncehaaGreatDoorV5

open Go renaming Addr → aC, Calls → aL, TypeId → aO, Value → aG, World → a6
open Classical renaming byContradiction → DS
open List renaming append_nil → mP, cons_append → iN, getD_eq_getElem?_getD → bD, getElem?_eq_getElem → cK, length_append → cR, length_cons → cJ, length_drop → cO, length_take → bK, mem_append → nR, mem_of_mem_drop → gG, mem_singleton → iW, replicate → bP
open Nat renaming add_sub_cancel → jZ, add_zero → dH, le_refl → aZ, le_trans → aK, mod_eq_of_lt → fE, mod_lt → eL, mul_assoc → bC, mul_comm → bR, mul_div_cancel → nP, mul_le_mul_right → eD, mul_one → cQ, pow_add → bU, pow_pos → eO, pow_succ → bS, zero_le → bZ
open Or renaming inl → cH, inr → bV
open Go.Proofs.Tryz renaming prog → aF
open Go.Value renaming int → bQ
namespace Go.Proofs.YtkepckmdjncehaaGreatDoor
variable {A Aa Ab B C:Option aC}{D a b bs fs l s t xs:List Nat}{N X ac an bh c ca cap cb f g i j k m n na p q v:Nat}{P:Program}{T:aO}{dn mo r s0 sa sb:Bool}{nn x y:Int}
section
open Go.RowKit
theorem TA (h:Digs l):Digs (m8 l)∧m8 l≠ []∧cB 10 ((m8 l).map dv)=cB 10 (l.map dv)∧(m8 l).length≤l.length+1:=by
 unfold m8
 by_cases h0:l= []
 ·subst h0;rw [if_pos rfl]
  exact⟨fun c hc=>by rw [iW] at hc;omega,by decide,by decide,by decide⟩
 ·rw [if_neg h0];exact⟨h,h0,rfl,by omega⟩
theorem SU {w:a6}{dg pw ex:List Nat}(he:ex=m8 pw)(hbs:∀b,b∈bs→b<256)(hlen:bs.length≤1073741824)(h:fK bs=some (dg,bh,dn,pw)):
  aL aF 209 #[.string (a7 bs)] w (Gv w (Is (.tuple #[.bool (aT bs),.string (a7 dg),.int .i64 bh,.bool dn,.string (a7 ex),.bool true]))):=
 (GU hbs hlen).mono fun e w' ⟨v,he',hv,hx⟩=>⟨v,he',by unfold CutR7 at hv;rw [h] at hv;subst he;exact hv,hx⟩
theorem SV {w:a6}(hbs:∀b,b∈bs→b<256)(hlen:bs.length≤1073741824)(h:fK bs=none):
  aL aF 209 #[.string (a7 bs)] w (fun e w'=>∃(ng:Bool) (dg:List Nat) (bh:Nat) (dn:Bool) (ex:List Nat),True∧Gv w (Is (.tuple #[.bool ng,.string (a7 dg),.int .i64 bh,.bool dn,.string (a7 ex),.bool false])) e w'):=
 (GU hbs hlen).mono fun e w' ⟨v,he,hv,hx⟩=>by
  unfold CutR7 at hv;rw [h] at hv
  obtain⟨a,b,c,d,e',rfl⟩:=hv
  exact⟨a,b,c,d,e',trivial,_,he,rfl,hx⟩
theorem sD {w:a6}{b:Nat}(hb:b≤w.heap.size)(hX:cB 10 (bs.map dv)=X)(hbs:∀b,b∈bs→b<256)(hg:lS 10 bs)(hlen:bs.length≤17179869184:=by omega):aL aF 192 #[.string (a7 bs)] w (Gv w (T2 (WR b X) (Is (.int .i64 0)))):=by
 subst hX
 exact (RJ hbs hlen hg).mono (Gv.imp (T2.imp (WR.imp hb) Is.imp))
set_option maxHeartbeats 8000000 in
theorem SQ {w:a6}(hbs:∀b,b∈bs→b<256)(hlen:bs.length≤1099511627776):
    aL aF 170 #[.string (a7 bs)] w (Gv w (T2 (Is (.int .u64 (((iP bs).1:Nat):Int))) (Is (.int .i64 (iP bs).2)))):=by
 refine bL Tryz.func170 rfl (n:=71) rfl (bq rfl) (args:= [.string (a7 bs)]) (bB [(0,.string (a7 bs))] ⟨rfl,trivial⟩ (sr (mv 2 rfl (a0 (aA (aA ?_))))))
 by_cases hlong:bs.length>4096
 · 
  refine a8 (mv 1 rfl (bA rfl rfl (v:= .int .i64 (((a7 bs).size:Nat):Int)) (v':= .int .i64 ((bs.length:Nat):Int)) (by rw [cI]) (aB rfl rfl rfl true (dC (a:=bs.length) (b:=4096) rfl rfl) (a0 (aM rfl (sr (mv 2 rfl (a0 (aJ (bJ (aI [.int .u64 0,.int .i64 5] rfl ⟨rfl,rfl,trivial⟩ ?_)))))))))))
  have hr:=GP hlong
  exact⟨_,rfl,⟨_,_,rfl,(show bQ .u64 ((0:Nat):Int)=_ by rw [hr]),(show bQ .i64 _=_ by rw [hr])⟩,(Ext.refl w)⟩
 · 
  refine a8 (mv 1 rfl (bA rfl rfl (v:= .int .i64 (((a7 bs).size:Nat):Int)) (v':= .int .i64 ((bs.length:Nat):Int)) (by rw [cI]) (aB rfl rfl rfl false (cW (a:=bs.length) (b:=4096) rfl rfl) (a0 (aH rfl (aN (aE (aA ?_))))))))
  rcases hcut:fK bs with _ | ⟨dg,bh,dn,pw⟩
  · 
   refine a8 (mv 1 rfl (eA rfl rfl (vs:= [.string (a7 bs)]) (by kernel_rfl) (by decide) (SV hbs (by omega) hcut) ?_))
   rintro _ v1 ⟨ng4,dg5,bh6,dn7,ex8,p9,xr3,rfl,r3,e2⟩
   refine eC ?_
   have hw1:=(Ext.refl w).trans e2
   obtain rfl:=r3
   refine mv 1 rfl (pu (v:= .bool ng4) rfl (pu (v:= .string (a7 dg5)) rfl (pu (v:= .int .i64 bh6) rfl (pu (v:= .bool dn7) rfl (pu (v:= .string (a7 ex8)) rfl (pu (v:= .bool false) rfl (mv 6 rfl (a0 (aA (sr (mv 1 rfl (pu (v:= .bool true) rfl (aR ?_)))))))))))))
   refine aE (aM rfl (sr (mv 2 rfl (a0 (aJ (bJ (aI [.int .u64 0,.int .i64 7] rfl ⟨rfl,rfl,trivial⟩ ?_)))))))
   have hr:=GO hlong hcut
   exact⟨_,rfl,⟨_,_,rfl,(show bQ .u64 ((0:Nat):Int)=_ by rw [hr]),(show bQ .i64 _=_ by rw [hr])⟩,hw1⟩
  · 
   obtain⟨hdg,hdg0,hpw,hbh,hdgl,hpwl⟩:=KT hcut
   have hdg256:∀b,b∈dg→b<256:=fun b hb=>by have:=hdg b hb;omega
   obtain⟨hxd,hx0,hxv,hxl⟩:=TA hpw
   obtain⟨ex,hxe⟩:∃ex,ex=m8 pw:=⟨_,rfl⟩
   rw [←hxe] at hxd hx0 hxv hxl
   have hx256:∀b,b∈ex→b<256:=fun b hb=>by have:=hxd b hb;omega
   obtain⟨X,hX⟩:∃X,cB 10 (dg.map dv)=X:=⟨_,rfl⟩
   obtain⟨V,hV⟩:∃V,cB 10 (pw.map dv)=V:=⟨_,rfl⟩
   rw [hV] at hxv
   have hXl:(wd X).length≤4096:=by rw [←hX];exact aK (BX (hdg.good hdg0).2) (by omega)
   have hVl:(wd V).length≤4097:=by rw [←hxv];exact aK (BX (hxd.good hx0).2) (by omega)
   refine a8 (mv 1 rfl (cl (vs:= [.string (a7 bs)]) (Ext.refl w) (SU hxe hbs (by omega) hcut) rfl (by kernel_rfl) fun xr12 v10 r12 e11 hw1=>?_))
   obtain rfl:=r12
   refine mv 1 rfl (pu (v:= .bool (aT bs)) rfl (pu (v:= .string (a7 dg)) rfl (pu (v:= .int .i64 bh) rfl (pu (v:= .bool dn) rfl (pu (v:= .string (a7 ex)) rfl (pu (v:= .bool true) rfl (mv 6 rfl (a0 (aA (sr (mv 1 rfl (pu (v:= .bool false) rfl (aR ?_)))))))))))))
   refine aE (aH rfl (aN (aE (sr (mv 1 rfl (cl (vs:= [.string (a7 ex)]) hw1 (sD hw1.size hxv hx256 (hxd.good hx0)) rfl (by kernel_rfl) fun xr15 v13 r15 e14 hw2=>?_))))))
   obtain⟨_,_,rfl,⟨A17,n17,c17,rfl,j17,o17⟩,rfl⟩:=r15
   refine mv 1 rfl (pu (v:= .slice A17 n17 c17) rfl (pu (v:= .int .i64 0) rfl (mv 2 rfl (a0 (aA (aA ?_))))))
   by_cases h5:5000<V
   · 
    refine a8 (mv 1 rfl (dN rfl rfl (k:=1) (e:=65) [.int .u64 5000] (fun _=>by kernel_rfl) fun g18 v19 nb20=>?_))
    have o21:=O1.mk_ (x:=5000) (b:=w.heap.size) nb20 hw2.size
    have e22:=nb20.ext
    have hw3:=hw2.trans e22
    have o24:=i6 o21 (show 5000≤18446744073709551615 by decide) (show 5000≠0 by decide)
    have j23:=gP (show 5000≤18446744073709551615 by decide) (show 5000≠0 by decide)
    refine cl (vs:= [.slice A17 n17 c17,.slice (some ⟨g18,0,none⟩) 1 1]) hw3 (pV (o17.ext e22).wi (by omega) o24.wi (by omega)) rfl (by kernel_rfl) fun xr27 v25 r27 e26 hw4=>?_
    obtain rfl:=r27
    refine aB rfl rfl rfl true (pU (by rw [vB h5];decide)) (a0 (aM rfl (sr (mv 2 rfl (a0 (aJ (bJ (aI [.int .u64 0,.int .i64 5] rfl ⟨rfl,rfl,trivial⟩ ?_))))))))
    have hr:=GQ hlong hcut (by rw [hV];exact h5)
    exact⟨_,rfl,⟨_,_,rfl,(show bQ .u64 ((0:Nat):Int)=_ by rw [hr]),(show bQ .i64 _=_ by rw [hr])⟩,hw4⟩
   · 
    refine a8 (mv 1 rfl (dN rfl rfl (k:=1) (e:=65) [.int .u64 5000] (fun _=>by kernel_rfl) fun g28 v29 nb30=>?_))
    have o31:=O1.mk_ (x:=5000) (b:=w.heap.size) nb30 hw2.size
    have e32:=nb30.ext
    have hw3:=hw2.trans e32
    have o34:=i6 o31 (show 5000≤18446744073709551615 by decide) (show 5000≠0 by decide)
    have j33:=gP (show 5000≤18446744073709551615 by decide) (show 5000≠0 by decide)
    refine cl (vs:= [.slice A17 n17 c17,.slice (some ⟨g28,0,none⟩) 1 1]) hw3 (pV (o17.ext e32).wi (by omega) o34.wi (by omega)) rfl (by kernel_rfl) fun xr37 v35 r37 e36 hw4=>?_
    obtain rfl:=r37
    refine aB rfl rfl rfl false (oJ (h:=(by unfold d6;split;(· omega);(· split;(· omega);(· omega))))) (a0 (aH rfl (aN (aE (sr (mv 1 rfl (a0 (gR (T:=a6×Nat) (fun⟨wr,x1⟩=> [(4,.bool (aT bs)),(5,.string (a7 dg)),(6,.int .i64 bh),(7,.bool dn),(12,.int .i64 x1)]) (fun⟨wr,x1⟩=>wr) (fun⟨wr,x1⟩=>(Ext w wr)∧(x1=V)) ?_ ?_))))))))
    · 
     refine aA ?_
     by_cases hV0:V=0
     · 
      have hln:n17=0:=by rw [j17];exact j7.2 hV0
      refine a8 (mv 1 rfl (pu (v:= .int .i64 n17) rfl (aB rfl rfl rfl false (cW (a:=n17) (b:=0) rfl rfl) (a0 (aH rfl (aN (d5 (⟨v35,0⟩:a6×Nat) ⟨hw4,(by omega)⟩ rfl ⟨rfl,rfl,rfl,rfl,rfl,trivial⟩)))))))
     · 
      have hln:n17≠0:=by rw [j17];exact fun e=>hV0 (j7.1 e)
      have hV1:=xJ hV0
      refine a8 (mv 1 rfl (pu (v:= .int .i64 n17) rfl (aB rfl rfl rfl true (dC (a:=n17) (b:=0) rfl rfl) (a0 (aM rfl (a8 (mv 1 rfl ?_)))))))
      obtain⟨p38,hp38,hc38⟩:=xC (o17.ext (e32.trans e36)) j17 hV1
      refine bX rfl rfl rfl cA bT 0 rfl p38 hp38 (aQ rfl rfl (dG d8 hc38) (bA rfl rfl (v:= .int .i64 (IntKind.i64.wrap ((V:Nat):Int))) (v':= .int .i64 V) (lB (by first | omega | exact hle64)) (mv 1 rfl (aR (d5 (⟨v35,V⟩:a6×Nat) ⟨hw4,rfl⟩ rfl ⟨rfl,rfl,rfl,rfl,rfl,trivial⟩))))) (hj:=(by rw [j17,hV1];decide))
    · 
     rintro⟨wr,x1⟩ ⟨hw1,hx1⟩
     refine cM [(4,.bool (aT bs)),(5,.string (a7 dg)),(6,.int .i64 bh),(7,.bool dn),(12,.int .i64 x1)] wr rfl ⟨rfl,rfl,rfl,rfl,rfl,trivial⟩ (aA (aA ?_))
     subst hx1
     cases dn
     · 
      refine a8 (mv 1 rfl (a0 (aH rfl (aN (aE (sr (mv 2 rfl (aD rfl rfl rfl (((x1:Nat):Int)-((bh:Nat):Int)) (dE rfl) (mv 1 rfl (a0 (aA ?_)))))))))))
      by_cases hz:bh≤x1
      · 
       refine bB [(4,.bool (aT bs)),(5,.string (a7 dg)),(6,.int .i64 bh),(7,.bool false),(12,.int .i64 (((x1:Nat):Int)-((bh:Nat):Int))),(46,.bool false),(49,.int .i64 x1),(50,.int .i64 bh),(51,.int .i64 (((x1:Nat):Int)-((bh:Nat):Int)))] ⟨rfl,rfl,rfl,rfl,rfl,rfl,rfl,rfl,rfl,trivial⟩ ?_
       rw [show (((x1:Nat):Int)-((bh:Nat):Int))=((x1-bh:Nat):Int) by omega]
       have h10:(wd (10^(x1-bh))).length≤(x1-bh)+1:=jS
       refine a8 (mv 1 rfl (cl (vs:= [.string (a7 dg)]) hw1 (sD hw1.size hX hdg256 (hdg.good hdg0)) rfl (by kernel_rfl) fun xr41 v39 r41 e40 hw2=>?_))
       obtain⟨_,_,rfl,⟨A43,n43,c43,rfl,j43,o43⟩,rfl⟩:=r41
       refine mv 1 rfl (pu (v:= .slice A43 n43 c43) rfl (pu (v:= .int .i64 0) rfl (mv 2 rfl (a0 (sr (dN rfl rfl (k:=1) (e:=65) [.int .u64 1] (fun _=>by kernel_rfl) fun g44 v45 nb46=>?_))))))
       have o47:=O1.mk_ (x:=1) (b:=w.heap.size) nb46 hw2.size
       have e48:=nb46.ext
       have hw3:=hw2.trans e48
       have o50:=i6 o47 (show 1≤18446744073709551615 by decide) (show 1≠0 by decide)
       have j49:=gP (show 1≤18446744073709551615 by decide) (show 1≠0 by decide)
       refine mv 1 rfl (a0 (aA (sr (mv 1 rfl (aB rfl rfl rfl true (eI (a:=x1-bh) (b:=0) rfl rfl) (a0 (aM rfl (a8 (mv 2 rfl (cl (vs:= [.int .i64 ((x1-bh:Nat):Int)]) hw3 (xB (n:=x1-bh) hw3.size) rfl (by kernel_rfl) fun xr53 v51 r53 e52 hw4=>?_))))))))))
       obtain⟨A54,n54,c54,rfl,j54,o54⟩:=r53
       refine cl (vs:= [.slice A43 n43 c43,.slice A54 n54 c54]) hw4 (C6 hw4.size (o43.ext (e48.trans e52)).wi (by omega) o54.wi (by omega)) rfl (by kernel_rfl) fun xr57 v55 r57 e56 hw5=>?_
       obtain⟨A58,n58,c58,rfl,j58,o58⟩:=r57
       refine mv 1 rfl (a0 (aA ?_))
       have hXM:(wd (X*10^(x1-bh))).length≤20000:=by have:=uS X (10^(x1-bh));omega
       obtain⟨nb,hnb⟩:∃nb,cN ((X*10^(x1-bh))*2^bN) 1=nb:=⟨_,rfl⟩
       have hrd:=pI (nb:=nb) hlong hcut hV h5 hX (by unfold mA;rw [if_pos ⟨rfl,hz⟩];exact hnb)
       refine a8 (mv 3 rfl (cl (vs:= [.slice A58 n58 c58,.slice (some ⟨g44,0,none⟩) 1 1,.bool (aT bs)]) hw5 (sF (ng:=aT bs) o58.wi (o50.ext (e52.trans e56)).wi (by decide) hnb) rfl (by kernel_rfl) fun xr61 v59 r61 e60 hw6=>?_))
       obtain rfl:=r61
       refine mv 2 rfl (a0 (aJ (aI [.int .u64 ((dR (aT bs) nb:Nat):Int),I0] rfl ⟨rfl,rfl,trivial⟩ ?_)))
       have hr:=hrd
       exact⟨_,rfl,⟨_,_,rfl,(show bQ .u64 ((dR (aT bs) nb:Nat):Int)=_ by rw [hr]),(show bQ .i64 _=_ by rw [hr])⟩,hw6⟩
      · 
       refine bB [(4,.bool (aT bs)),(5,.string (a7 dg)),(6,.int .i64 bh),(7,.bool false),(12,.int .i64 (((x1:Nat):Int)-((bh:Nat):Int))),(46,.bool false),(49,.int .i64 x1),(50,.int .i64 bh),(51,.int .i64 (((x1:Nat):Int)-((bh:Nat):Int)))] ⟨rfl,rfl,rfl,rfl,rfl,rfl,rfl,rfl,rfl,trivial⟩ ?_
       rw [show (((x1:Nat):Int)-((bh:Nat):Int))=(-((bh-x1:Nat):Int)) by omega]
       have h10:(wd (10^(bh-x1))).length≤(bh-x1)+1:=jS
       refine a8 (mv 1 rfl (cl (vs:= [.string (a7 dg)]) hw1 (sD hw1.size hX hdg256 (hdg.good hdg0)) rfl (by kernel_rfl) fun xr64 v62 r64 e63 hw2=>?_))
       obtain⟨_,_,rfl,⟨A66,n66,c66,rfl,j66,o66⟩,rfl⟩:=r64
       refine mv 1 rfl (pu (v:= .slice A66 n66 c66) rfl (pu (v:= .int .i64 0) rfl (mv 2 rfl (a0 (sr (dN rfl rfl (k:=1) (e:=65) [.int .u64 1] (fun _=>by kernel_rfl) fun g67 v68 nb69=>?_))))))
       have o70:=O1.mk_ (x:=1) (b:=w.heap.size) nb69 hw2.size
       have e71:=nb69.ext
       have hw3:=hw2.trans e71
       have o73:=i6 o70 (show 1≤18446744073709551615 by decide) (show 1≠0 by decide)
       have j72:=gP (show 1≤18446744073709551615 by decide) (show 1≠0 by decide)
       refine mv 1 rfl (a0 (aA (sr (mv 1 rfl (aB rfl rfl rfl false (iT) (a0 (aH rfl (a8 (mv 1 rfl (bA rfl rfl (v:= .int .i64 (IntKind.i64.wrap (0- -((bh-x1:Nat):Int)))) (v':= .int .i64 ((bh-x1:Nat):Int)) (nH) (cl (vs:= [.int .i64 ((bh-x1:Nat):Int)]) hw3 (xB (n:=bh-x1) hw3.size) rfl (by kernel_rfl) fun xr76 v74 r76 e75 hw4=>?_)))))))))))
       obtain⟨A77,n77,c77,rfl,j77,o77⟩:=r76
       refine mv 1 rfl (a0 (aA ?_))
       obtain⟨nb,hnb⟩:∃nb,cN (X*2^bN) (10^(bh-x1))=nb:=⟨_,rfl⟩
       have hrd:=pI (nb:=nb) hlong hcut hV h5 hX (by unfold mA;rw [if_neg (fun h=>hz h.2),if_neg (by decide)];exact hnb)
       refine a8 (mv 3 rfl (cl (vs:= [.slice A66 n66 c66,.slice A77 n77 c77,.bool (aT bs)]) hw4 (sF (ng:=aT bs) (o66.ext (e71.trans e75)).wi o77.wi (eO (by decide)) hnb) rfl (by kernel_rfl) fun xr80 v78 r80 e79 hw5=>?_))
       obtain rfl:=r80
       refine mv 2 rfl (a0 (aJ (aI [.int .u64 ((dR (aT bs) nb:Nat):Int),I0] rfl ⟨rfl,rfl,trivial⟩ ?_)))
       have hr:=hrd
       exact⟨_,rfl,⟨_,_,rfl,(show bQ .u64 ((dR (aT bs) nb:Nat):Int)=_ by rw [hr]),(show bQ .i64 _=_ by rw [hr])⟩,hw5⟩
     · 
      refine a8 (mv 1 rfl (a0 (aM rfl (a8 (mv 1 rfl (bA rfl rfl (v:= .int .i64 (IntKind.i64.wrap (0-((x1:Nat):Int)))) (v':= .int .i64 (-((x1:Nat):Int))) (KR (by omega)) (mv 1 rfl (a0 (sr (mv 2 rfl (aD rfl rfl rfl ((-((x1:Nat):Int))-((bh:Nat):Int)) (dE rfl) (mv 1 rfl (aR ?_)))))))))))))
      refine aE (aA ?_)
      by_cases hz:x1+bh=0
      · 
       refine bB [(4,.bool (aT bs)),(5,.string (a7 dg)),(6,.int .i64 bh),(7,.bool true),(12,.int .i64 ((-((x1:Nat):Int))-((bh:Nat):Int))),(46,.bool true),(47,.int .i64 x1),(48,.int .i64 (-((x1:Nat):Int))),(49,.int .i64 (-((x1:Nat):Int))),(50,.int .i64 bh),(51,.int .i64 ((-((x1:Nat):Int))-((bh:Nat):Int)))] ⟨rfl,rfl,rfl,rfl,rfl,rfl,rfl,rfl,rfl,rfl,rfl,trivial⟩ ?_
       rw [show ((-((x1:Nat):Int))-((bh:Nat):Int))=0 by omega]
       have h10:(wd (10^(0))).length≤0+1:=jS
       refine a8 (mv 1 rfl (cl (vs:= [.string (a7 dg)]) hw1 (sD hw1.size hX hdg256 (hdg.good hdg0)) rfl (by kernel_rfl) fun xr83 v81 r83 e82 hw2=>?_))
       obtain⟨_,_,rfl,⟨A85,n85,c85,rfl,j85,o85⟩,rfl⟩:=r83
       refine mv 1 rfl (pu (v:= .slice A85 n85 c85) rfl (pu (v:= .int .i64 0) rfl (mv 2 rfl (a0 (sr (dN rfl rfl (k:=1) (e:=65) [.int .u64 1] (fun _=>by kernel_rfl) fun g86 v87 nb88=>?_))))))
       have o89:=O1.mk_ (x:=1) (b:=w.heap.size) nb88 hw2.size
       have e90:=nb88.ext
       have hw3:=hw2.trans e90
       have o92:=i6 o89 (show 1≤18446744073709551615 by decide) (show 1≠0 by decide)
       have j91:=gP (show 1≤18446744073709551615 by decide) (show 1≠0 by decide)
       refine mv 1 rfl (a0 (aA (sr (mv 1 rfl (aB rfl rfl rfl true (by decide) (a0 (aM rfl (a8 (mv 2 rfl (cl (vs:= [I0]) hw3 (xB (n:=0) hw3.size) rfl (by kernel_rfl) fun xr95 v93 r95 e94 hw4=>?_))))))))))
       obtain⟨A96,n96,c96,rfl,j96,o96⟩:=r95
       refine cl (vs:= [.slice A85 n85 c85,.slice A96 n96 c96]) hw4 (C6 hw4.size (o85.ext (e90.trans e94)).wi (by omega) o96.wi (by omega)) rfl (by kernel_rfl) fun xr99 v97 r99 gE hw5=>?_
       obtain⟨A100,n100,c100,rfl,j100,o100⟩:=r99
       refine mv 1 rfl (a0 (aA ?_))
       have hXM:(wd (X*10^(0))).length≤20000:=by have:=uS X (10^(0));omega
       obtain⟨nb,hnb⟩:∃nb,cN ((X*10^(0))*2^bN) 1=nb:=⟨_,rfl⟩
       have hrd:=pI (nb:=nb) hlong hcut hV h5 hX (by unfold mA;rw [if_neg (by simp),if_pos rfl,hz,Nat.pow_zero];rw [Nat.pow_zero,cQ] at hnb;exact hnb)
       refine a8 (mv 3 rfl (cl (vs:= [.slice A100 n100 c100,.slice (some ⟨g86,0,none⟩) 1 1,.bool (aT bs)]) hw5 (sF (ng:=aT bs) o100.wi (o92.ext (e94.trans gE)).wi (by decide) hnb) rfl (by kernel_rfl) fun xr103 v101 r103 e102 hw6=>?_))
       obtain rfl:=r103
       refine mv 2 rfl (a0 (aJ (aI [.int .u64 ((dR (aT bs) nb:Nat):Int),I0] rfl ⟨rfl,rfl,trivial⟩ ?_)))
       have hr:=hrd
       exact⟨_,rfl,⟨_,_,rfl,(show bQ .u64 ((dR (aT bs) nb:Nat):Int)=_ by rw [hr]),(show bQ .i64 _=_ by rw [hr])⟩,hw6⟩
      · 
       refine bB [(4,.bool (aT bs)),(5,.string (a7 dg)),(6,.int .i64 bh),(7,.bool true),(12,.int .i64 ((-((x1:Nat):Int))-((bh:Nat):Int))),(46,.bool true),(47,.int .i64 x1),(48,.int .i64 (-((x1:Nat):Int))),(49,.int .i64 (-((x1:Nat):Int))),(50,.int .i64 bh),(51,.int .i64 ((-((x1:Nat):Int))-((bh:Nat):Int)))] ⟨rfl,rfl,rfl,rfl,rfl,rfl,rfl,rfl,rfl,rfl,rfl,trivial⟩ ?_
       rw [show ((-((x1:Nat):Int))-((bh:Nat):Int))=(-((x1+bh:Nat):Int)) by omega]
       have h10:(wd (10^(x1+bh))).length≤(x1+bh)+1:=jS
       refine a8 (mv 1 rfl (cl (vs:= [.string (a7 dg)]) hw1 (sD hw1.size hX hdg256 (hdg.good hdg0)) rfl (by kernel_rfl) fun xr106 v104 r106 e105 hw2=>?_))
       obtain⟨_,_,rfl,⟨A108,n108,c108,rfl,j108,o108⟩,rfl⟩:=r106
       refine mv 1 rfl (pu (v:= .slice A108 n108 c108) rfl (pu (v:= .int .i64 0) rfl (mv 2 rfl (a0 (sr (dN rfl rfl (k:=1) (e:=65) [.int .u64 1] (fun _=>by kernel_rfl) fun g109 v110 nb111=>?_))))))
       have o112:=O1.mk_ (x:=1) (b:=w.heap.size) nb111 hw2.size
       have e113:=nb111.ext
       have hw3:=hw2.trans e113
       have o115:=i6 o112 (show 1≤18446744073709551615 by decide) (show 1≠0 by decide)
       have j114:=gP (show 1≤18446744073709551615 by decide) (show 1≠0 by decide)
       refine mv 1 rfl (a0 (aA (sr (mv 1 rfl (aB rfl rfl rfl false (iT) (a0 (aH rfl (a8 (mv 1 rfl (bA rfl rfl (v:= .int .i64 (IntKind.i64.wrap (0- -((x1+bh:Nat):Int)))) (v':= .int .i64 ((x1+bh:Nat):Int)) (nH) (cl (vs:= [.int .i64 ((x1+bh:Nat):Int)]) hw3 (xB (n:=x1+bh) hw3.size) rfl (by kernel_rfl) fun xr118 v116 r118 e117 hw4=>?_)))))))))))
       obtain⟨A119,n119,c119,rfl,j119,o119⟩:=r118
       refine mv 1 rfl (a0 (aA ?_))
       obtain⟨nb,hnb⟩:∃nb,cN (X*2^bN) (10^(x1+bh))=nb:=⟨_,rfl⟩
       have hrd:=pI (nb:=nb) hlong hcut hV h5 hX (by unfold mA;rw [if_neg (by simp),if_pos rfl];exact hnb)
       refine a8 (mv 3 rfl (cl (vs:= [.slice A108 n108 c108,.slice A119 n119 c119,.bool (aT bs)]) hw4 (sF (ng:=aT bs) (o108.ext (e113.trans e117)).wi o119.wi (eO (by decide)) hnb) rfl (by kernel_rfl) fun xr122 v120 r122 e121 hw5=>?_))
       obtain rfl:=r122
       refine mv 2 rfl (a0 (aJ (aI [.int .u64 ((dR (aT bs) nb:Nat):Int),I0] rfl ⟨rfl,rfl,trivial⟩ ?_)))
       have hr:=hrd
       exact⟨_,rfl,⟨_,_,rfl,(show bQ .u64 ((dR (aT bs) nb:Nat):Int)=_ by rw [hr]),(show bQ .i64 _=_ by rw [hr])⟩,hw5⟩
theorem RC (i:Nat):bP i 48++ [48]=bP (i+1) 48:=by rw [List.replicate_succ']
set_option maxHeartbeats 4000000 in
theorem BB {w:a6}(hn:n≤17179869184:=by omega):
    aL aF 218 #[.int .i64 n] w (Gv w (Is (.string (a7 (bP n 48))))):=by
 refine bL Tryz.func218 rfl (n:=15) rfl (bq rfl) (args:= [.int .i64 n]) (bB [(0,.int .i64 n)] ⟨rfl,trivial⟩ (sr (mv 1 rfl (a0 (sr (mv 1 rfl (a0 (aA (sr (mv 1 rfl (a0 (bM ?_))))))))))))
 refine dS (T:=a6×Nat×Option aC×Nat×Nat)
  (fun⟨wr,i,OA,on,oc⟩=> [(0,.int .i64 n),(3,.slice OA on oc),(4,.int .i64 i)])
  (fun⟨wr,i,OA,on,oc⟩=>wr)
  (fun⟨wr,i,OA,on,oc⟩=>(Ext w wr)∧(Own wr w.heap.size 5 1 OA on oc ((bP i 48).map B8))∧(i≤n)∧(on=i))
  (fun⟨wr,i,OA,on,oc⟩=>n-i)
  (⟨w,0,none,0,0⟩:a6×Nat×Option aC×Nat×Nat) ⟨(Ext.refl w),(Own.nil _ _ _ _),(bZ _),rfl⟩ rfl ⟨rfl,rfl,rfl,trivial⟩ ?_
 rintro⟨wr,i,OA,on,oc⟩ ⟨hw1,hO,hi,hon⟩
 refine cM [(0,.int .i64 n),(3,.slice OA on oc),(4,.int .i64 i)] wr rfl ⟨rfl,rfl,rfl,trivial⟩ (aA (aA ?_))
 by_cases hlt:i<n
 · 
  refine a8 (mv 2 rfl (aB rfl rfl rfl true (dV (a:=i) (b:=n) rfl rfl) (a0 (aM rfl (aN (aE (aA (bM (a8 (mv 1 rfl (dN rfl rfl (k:=1) (e:=5) [.int .u8 48] (fun _=>by kernel_rfl) fun g1 v2 nb=>?_)))))))))))
  have hb3:=nb.bk
  have e4:=nb.ext
  clear nb
  have hw2:=hw1.trans e4
  have ow5:=(hO.ext e4)
  refine nV rfl rfl rfl fJ pT rfl ow5 hw2.size [.int .u8 48] rfl (o8 _ hb3) rfl fun A6 c7 v8 ho9 uo10 kp11=>?_
  have hw3:=uo10.ext hw2 (fun p hp=>(ow5.block p hp).1)
  have ho12:Own v8 w.heap.size 5 1 A6 (on+1) c7 (((bP i 48)++ [48]).map B8):=by have h:=ho9;simp only [List.map_append,List.map_cons,List.map_nil] at h⊢;exact h
  refine mv 1 rfl (aR (cE (aE (a8 (mv 1 rfl (aD rfl rfl rfl ((i+1:Nat):Int) (bF (a:=i) (b:=1) rfl rfl) (mv 1 rfl (aR (cU (⟨v8,i+1,A6,on+1,c7⟩:a6×Nat×Option aC×Nat×Nat) ⟨hw3,(by have h:=ho12;rw [RC] at h;exact h),(by omega),(by omega)⟩ (show n-(i+1)<n-i by omega) rfl ⟨rfl,rfl,rfl,trivial⟩)))))))))
 · 
  refine a8 (mv 2 rfl (aB rfl rfl rfl false (dP (a:=i) (b:=n) rfl rfl) (a0 (aH rfl (dB (d7 (d9 (dA (aE (sr (mv 1 rfl (tO rfl rfl hO (mv 1 rfl ?_)))))))))))))
  refine a0 (aJ (aI [.string (a7 (bP i 48))] rfl ⟨rfl,trivial⟩ ?_))
  exact⟨_,rfl,(show Value.string (a7 (bP i 48))=_ by rw [show i=n by omega]),hw1⟩
theorem O2 (h:(wd X).length≤N):(wd (X+1)).length≤N+1:=by
 refine fS ?_
 have h1:=k9 X
 have h2:X<WB^N:=Nat.lt_of_lt_of_le h1 (Nat.pow_le_pow_right fX h)
 rw [bS]
 have h3:WB^N*2≤WB^N*WB:=Nat.mul_le_mul_left _ (by rw [cF];decide)
 omega
set_option maxHeartbeats 4000000 in
theorem S4 {w:a6}(hbs:∀b,b∈bs→b<256)(hlen:bs.length≤17179869184)(hg:lS 10 bs)(hX:cB 10 (bs.map dv)=X)(hXl:(wd X).length≤1048570):
    aL aF 219 #[.string (a7 bs)] w (Gv w (Is (.string (a7 (aX 10 (X+1)))))):=by
 have hXl1:(wd (X+1)).length≤1048571:=O2 hXl
 refine bL Tryz.func219 rfl (n:=15) rfl (bq rfl) (args:= [.string (a7 bs)]) (bB [(0,.string (a7 bs))] ⟨rfl,trivial⟩ (sr (mv 1 rfl (a0 (sr (mv 1 rfl (cl (vs:= [.string (a7 bs)]) (Ext.refl w) (sD (Ext.refl w).size hX hbs hg (hlen:=hlen)) rfl (by kernel_rfl) fun xr3 v1 r3 e2 hw1=>?_)))))))
 obtain⟨_,_,rfl,⟨A5,n5,c5,rfl,j5,o5⟩,rfl⟩:=r3
 refine mv 1 rfl (pu (v:= .slice A5 n5 c5) rfl (pu (v:= .int .i64 0) rfl (mv 2 rfl (a0 (sr (mv 1 rfl (dN rfl rfl (k:=1) (e:=65) [.int .u64 1] (fun _=>by kernel_rfl) fun g6 v7 nb8=>?_)))))))
 have o9:=O1.mk_ (x:=1) (b:=w.heap.size) nb8 hw1.size
 have e10:=nb8.ext
 have hw2:=hw1.trans e10
 have o12:=i6 o9 (show 1≤18446744073709551615 by decide) (show 1≠0 by decide)
 have j11:=gP (show 1≤18446744073709551615 by decide) (show 1≠0 by decide)
 refine cl (vs:= [.slice A5 n5 c5,.slice (some ⟨g6,0,none⟩) 1 1]) hw2 (C7 hw2.size (o5.ext e10).wi (by omega) o12.wi (by omega)) rfl (by kernel_rfl) fun xr15 v13 r15 e14 hw3=>?_
 obtain⟨A16,n16,c16,rfl,j16,o16⟩:=r15
 refine mv 1 rfl (a0 (sr (mv 1 rfl (cl (vs:= [.slice A16 n16 c16]) hw3 (GE o16.wi (by omega)) rfl (by kernel_rfl) fun xr19 v17 r19 e18 hw4=>?_))))
 obtain rfl:=r19
 refine mv 1 rfl (a0 (aJ (aI [.string (a7 (aX 10 (X+1)))] rfl ⟨rfl,trivial⟩ ?_)))
 exact⟨_,rfl,rfl,hw4⟩
def lK:List Nat→List Nat→Bool
 | _,[]=>false
 | [],_::_=>true
 | a::x,b::y=>decide (a<b)||(decide (a=b)&&lK x y)
theorem J0:∀{a b:List Nat},(∀x,x∈a→x<256)→(∀x,x∈b→x<256)→Op.bytesLess (a.map UInt8.ofNat) (b.map UInt8.ofNat)=lK a b
 | [],[],_,_=>rfl
 | _::_,[],_,_=>rfl
 | [],_::_,_,_=>rfl
 | a::x,b::y,ha,hb=>by
  have ih:=J0 (fun z hz=>ha z (List.mem_cons_of_mem _ hz)) (fun z hz=>hb z (List.mem_cons_of_mem _ hz))
  have h1:=ha a List.mem_cons_self
  have h2:=hb b List.mem_cons_self
  show (decide (UInt8.ofNat a<UInt8.ofNat b)||(UInt8.ofNat a==UInt8.ofNat b&&Op.bytesLess (x.map UInt8.ofNat) (y.map UInt8.ofNat)))=_
  have e1:decide (UInt8.ofNat a<UInt8.ofNat b)=decide (a<b):=by
   congr 1
   rw [UInt8.lt_iff_toNat_lt,UInt8.toNat_ofNat',UInt8.toNat_ofNat',fE h1,fE h2]
  have e2:(UInt8.ofNat a==UInt8.ofNat b)=decide (a=b):=by
   by_cases h:a=b
   ·subst h;simp
   ·rw [decide_eq_false h,beq_eq_false_iff_ne]
    intro e
    have:=congrArg UInt8.toNat e
    rw [UInt8.toNat_ofNat',UInt8.toNat_ofNat',fE h1,fE h2] at this
    exact h this
  rw [e1,e2,ih];rfl
theorem J1:∀{a b:List Nat}{c d:Nat},a.length=b.length→lK (a++ [c]) (b++ [d])=(lK a b||(decide (a=b)&&decide (c<d)))
 | [],[],c,d,_=>by simp [lK]
 | a::x,b::y,c,d,h=>by
  have ih:=J1 (a:=x) (b:=y) (c:=c) (d:=d) (by simpa using h)
  show (decide (a<b)||(decide (a=b)&&lK (x++ [c]) (y++ [d])))=((decide (a<b)||(decide (a=b)&&lK x y))||(decide (a::x=b::y)&&decide (c<d)))
  rw [ih]
  by_cases h1:a<b
  ·simp [h1]
  ·by_cases h2:a=b
   ·subst h2;simp
   ·simp [h1,h2]
theorem yC:∀{k u v:Nat},u<10^k→v<10^k→aP k u=aP k v→u=v
 | 0,u,v,hu,hv,_=>by rw [Nat.pow_zero] at hu hv;omega
 | k+1,u,v,hu,hv,h=>by
  rw [aP,aP] at h
  obtain⟨h1,h2⟩:=List.append_inj' h rfl
  rw [bS] at hu hv
  have h3:=yC (by omega) (by omega) h1
  have h4:48+u%10=48+v%10:=by simpa using h2
  omega
theorem IZ:∀{k u v:Nat},u<10^k→v<10^k→lK (aP k u) (aP k v)=decide (u<v)
 | 0,u,v,hu,hv=>by rw [Nat.pow_zero] at hu hv;exact (decide_eq_false (by omega)).symm
 | k+1,u,v,hu,hv=>by
  rw [bS] at hu hv
  rw [aP,aP,J1 (by rw [cV,cV]),IZ (by omega) (by omega)]
  have e:(aP k (u/10)=aP k (v/10))↔u/10=v/10:=⟨fun h=>yC (by omega) (by omega) h,fun h=>by rw [h]⟩
  simp only [e]
  rw [Bool.eq_iff_iff]
  simp only [Bool.or_eq_true,Bool.and_eq_true,decide_eq_true_eq]
  omega
section
variable {P:Program}{Q:Exit→Act→a6→Prop}{n:Nat}{l:Fr}{w:a6}{ops:Array Oper}{rest:List Oper}{d:Nat}{ty:aO}{pos:String}{af:Array Edge}{gd:Option (Nat×Bool)}
theorem QR {t:aO}{x y:Operand}(ha:∀x,x∈a→x<256)(hb:∀x,x∈b→x<256)(hr:(!(lK a b||decide (a=b)))=r):
  ((do eqGuard .gtr t x y (.string (a7 a)) (.string (a7 b));binOp .gtr t (.string (a7 a)) (.string (a7 b))):Sem aG).run P w= .ok (.bool r) w:=by
 have key:((a7 a).toList==(a7 b).toList)=decide (a=b):=by
  by_cases h:a=b
  ·subst h;simp
  ·rw [decide_eq_false h,beq_eq_false_iff_ne]
   exact fun e=>h (FB ha hb (F1 e))
 have key2:Op.bytesLess (a7 a).toList (a7 b).toList=lK a b:=by
  rw [ByteArray.toList_eq,ByteArray.toList_eq]
  unfold a7
  rw [List.toList_toArray,List.toList_toArray]
  exact J0 ha hb
 subst hr
 simp [eqGuard,binOp,Op.stringOp,key,key2]
theorem oZ {t t':aO}{x y:Operand}(hw:dF ops l gd=some true)(hx:bW l x=some (.string (a7 a)))(hy:bW l y=some (.string (a7 b)))(ha:∀x,x∈a→x<256)(hb:∀x,x∈b→x<256)(r:Bool)(hr:(!(lK a b||decide (a=b)))=r)(h:wl P ops Q n rest ((d,.bool r)::l) w)(hn:d<n:=by decide):wl P ops Q n (⟨some d,.binOp .gtr t x y t',ty,pos,af,gd⟩::rest) l w:=
 fI hw hn (fun a' ha'=>by
  have e:((do eqGuard .gtr t x y (a'.eval x) (a'.eval y);binOp .gtr t (a'.eval x) (a'.eval y)):Sem aG).run P w= .ok (.bool r) w:=by
   rw [ha'.ev hx,ha'.ev hy];exact QR ha hb hr
  show ((((do eqGuard .gtr t x y (a'.eval x) (a'.eval y);binOp .gtr t (a'.eval x) (a'.eval y)):Sem aG)>>=fun r=>pure (Next.value r)):Sem Next).run P w=_
  rw [Sem.run_bind,e];rfl) h
end
def dL (m:Nat):Nat:=(aX 10 m).length
theorem CR (h:0<m):∃k,dL m=k+1∧10^k≤m∧m<10^(k+1)∧aX 10 m=aP (k+1) m:=by
 obtain⟨k,h1,h2⟩:=KH m h
 have e:=tR h h1 h2
 refine⟨k,?_,h1,h2,e⟩
 unfold dL;rw [e,cV]
def gA (m k:Nat):Prop:=10^k<2*(m%10^k)∨(10^k=2*(m%10^k)∧m/10^k%2=1)
instance (m k:Nat):Decidable (gA m k):=inferInstanceAs (Decidable (_∨_))
def dI (m n:Nat):Nat:=if dL m≤n then m*10^(n-dL m) else m/10^(dL m-n)
def fZ (m n:Nat):Nat:=if n<dL m∧gA m (dL m-n) then dI m n+1 else dI m n
def fR (m n:Nat):Nat:=if fZ m n=10^n then 10^(n-1) else fZ m n
def gH (m n:Nat):Nat:=if fZ m n=10^n then dL m else dL m-1
def pE (q n:Nat):List Nat:=(aP n q).take 1++(if 1<n then [46]++(aP n q).drop 1 else [])
def eF (x:Int)(n:Nat):List Nat:=if x=0 then [48] else ((if x<0 then [45] else [])++pE (fR x.natAbs n) n)++([101]++aX 10 (gH x.natAbs n))
theorem jG (k:Nat):0<10^k:=eO (by decide)
theorem m5 (h:0<m)(hn:1≤n):dI m n<10^n∧10^(n-1)≤dI m n:=by
 obtain⟨k,e,h1,h2,_⟩:=CR h
 unfold dI
 rw [e]
 split
 ·have e1:10^n=10^(k+1)*10^(n-(k+1)):=by rw [←bU];congr 1;omega
  have e2:10^(n-1)=10^k*10^(n-(k+1)):=by rw [←bU];congr 1;omega
  rw [e1,e2]
  exact⟨Nat.mul_lt_mul_of_pos_right h2 (jG _),eD _ h1⟩
 ·have e1:10^(k+1)=10^n*10^(k+1-n):=by rw [←bU];congr 1;omega
  have e2:10^k=10^(n-1)*10^(k+1-n):=by rw [←bU];congr 1;omega
  rw [e1] at h2
  rw [e2] at h1
  exact⟨(Nat.div_lt_iff_lt_mul (jG _)).2 h2,(Nat.le_div_iff_mul_le (jG _)).2 h1⟩
theorem F7 (he:dL m=k+1)(ht:aX 10 m=aP (k+1) m)(hi:i<n):(aP n (dI m n)).getD i 0=if i<k+1 then (aX 10 m).getD i 0 else 48:=by
 rw [lN hi]
 unfold dI
 rw [he]
 split
 ·split
  ·rename_i h1 h2
   rw [ht,lN h2]
   have e:n-1-i=(n-(k+1))+(k+1-1-i):=by omega
   rw [e,bU,←Nat.div_div_eq_div_mul,nP _ (jG _)]
  ·rename_i h1 h2
   have e:n-(k+1)=(n-1-i)+(i-k):=by omega
   rw [e,bU,←bC,Nat.mul_right_comm,nP _ (jG _)]
   obtain⟨d,hd⟩:∃d,i-k=d+1:=⟨i-k-1,by omega⟩
   rw [hd,bS,←bC,Nat.mul_mod_left]
 ·rename_i h1
  rw [if_pos (by omega),ht,lN (by omega),Nat.div_div_eq_div_mul,←bU]
  congr 4
  omega
theorem CL:∀{a k v:Nat},(aP (a+k) v).drop a=aP k v
 | a,0,v=>by
  rw [dH]
  show (aP a v).drop a= []
  exact List.drop_of_length_le (by rw [cV];exact aZ _)
 | a,k+1,v=>by
  show (aP (a+k) (v/10)++ [48+v%10]).drop a=aP k (v/10)++ [48+v%10]
  rw [List.drop_append_of_le_length (by rw [cV];omega),CL]
theorem KI:∀{k v:Nat},(∀c,c∈aP k v→c=48)→v%10^k=0
 | 0,v,_=>by rw [Nat.pow_zero,Nat.mod_one]
 | k+1,v,h=>by
  rw [aP] at h
  have h1:=KI (k:=k) (v:=v/10) fun c hc=>h c (List.mem_append_left _ hc)
  have h2:=h (48+v%10) (List.mem_append_right _ (iW.2 rfl))
  have h3:v%10=0:=by omega
  have e:=Nat.mod_mul (x:=v) (a:=10) (b:=10^k)
  rw [bS,bR,e,h1,h3]
theorem KJ:∀{k v c:Nat},v%10^k=0→c∈aP k v→c=48
 | 0,_,_,_,h=>absurd h (by simp [aP])
 | k+1,v,c,h0,h=>by
  have e:=Nat.mod_mul (x:=v) (a:=10) (b:=10^k)
  rw [bS,bR,e] at h0
  rw [aP] at h
  rcases nR.1 h with h | h
  ·refine KJ (v:=v/10) ?_ h
   have:=Nat.mul_eq_zero.1 (show 10*(v/10%10^k)=0 by omega)
   omega
  ·rw [iW] at h
   omega
theorem AW:m%10^(j+1)=m/10^j%10*10^j+m%10^j:=by
 rw [bS,Nat.mod_mul]
 have:=bR (10^j) (m/10^j%10)
 omega
theorem QJ (h:5<m/10^j%10):gA m (j+1):=by
 have:=AW (m:=m) (j:=j)
 have h1:6*10^j≤m/10^j%10*10^j:=eD _ h
 have h2:=jG j
 refine cH ?_
 rw [bS] at this⊢
 omega
theorem QI (h:m/10^j%10<5):¬gA m (j+1):=by
 have:=AW (m:=m) (j:=j)
 have h1:m/10^j%10*10^j≤4*10^j:=eD _ (by omega)
 have h2:=eL m (jG j)
 unfold gA
 rw [bS] at this⊢
 omega
theorem QK (h:m/10^j%10=5):gA m (j+1)↔(m/10^(j+1)%2=1∨m%10^j≠0):=by
 have:=AW (m:=m) (j:=j)
 rw [h] at this
 have h2:=eL m (jG j)
 unfold gA
 rw [this]
 rw [show 10^(j+1)=10*10^j by rw [bS];omega]
 omega
theorem uR {w:a6}{T':aO}(hT:∀w,(isAgg T).run P w= .ok false w)(hb:Bk w g T' (l.map B8))(hi:i<l.length):(loadVar T ⟨g,i,none⟩).run P w= .ok (.int .u8 ((l.getD i 0:Nat):Int)) w:=by
 refine bE hT hb ?_
 simp [bD,cK hi,B8]
theorem RB (n:Nat):bP n (bQ .u8 0)=(bP n 0).map B8:=by rw [List.map_replicate];rfl
theorem U2 (hk:k<n):(10^n-1)/10^k%10=9:=by
 obtain⟨d,rfl⟩:∃d,n=k+1+d:=⟨n-k-1,by omega⟩
 have hp:0<10^k:=jG k
 have hd:0<10^d:=jG d
 have e:10^(k+1+d)-1=(10^d-1)*10^(k+1)+9*10^k+(10^k-1):=by
  have h1:10^(k+1+d)=10^d*10^(k+1):=by rw [bU,bR]
  have h2:10^(k+1)=10*10^k:=by rw [bS,bR]
  have h3:(10^d-1)*10^(k+1)+10^(k+1)=10^d*10^(k+1):=by
   have:=Nat.succ_mul (10^d-1) (10^(k+1))
   rw [Nat.succ_eq_add_one,show 10^d-1+1=10^d by omega] at this
   omega
  omega
 rw [e,sR (by omega) (hc:=(by decide)),if_pos rfl]
theorem NZ (hk:k<n)(h:v/10^k%10<9):¬v+1=10^n:=fun e=>by
 have:=U2 hk
 rw [←e,jZ] at this
 omega
theorem KL (n:Nat):aP n (10^n)=aP n 0:=by
 have:=CJ (n:=n) (v:=10^n)
 rw [Nat.mod_self] at this
 exact this.symm
def UpR (g n v:Nat)(w:a6)(e:Ending)(w':a6):Prop:=e= .returned (.bool (decide (v+1=10^n)))∧Upd g w w'∧Bk w' g 5 ((aP n (v+1)).map B8)
theorem sW:∀x,x∈aP n v→x<256:=fun x hx=>by have:=kB hx;omega
theorem NW {u:Nat}(h9:v%10^k=10^k-1)(hu:u=v-(10^k-1)):u/10^k%10=v/10^k%10:=by
 have hp:0<10^k:=jG k
 have h1:=rA v k
 have eu:u=v/10^(k+1)*10^(k+1)+v/10^k%10*10^k+0:=by omega
 have:=sR (h:=v/10^(k+1)) (c:=v/10^k%10) (l:=0) (k:=k) (j:=k) hp
 rw [←eu,if_pos rfl] at this;exact this
set_option maxHeartbeats 4000000 in
theorem xP {w:a6}(hb0:Bk w g 5 ((aP n v).map B8))(hv:v<10^n)(hn:1≤n)(hnb:n≤1099511627776:=by omega):
    aL aF 220 #[.slice (some ⟨g,0,none⟩) n n] w (UpR g n v w):=by
 refine bL Tryz.func220 rfl (n:=25) rfl (bq rfl) (args:= [.slice (some ⟨g,0,none⟩) n n]) (bB [(0,.slice (some ⟨g,0,none⟩) n n)] ⟨rfl,trivial⟩ (sr (mv 1 rfl (a0 (aA (sr (mv 1 rfl (pu (v:= .int .i64 n) rfl (aD rfl rfl rfl (((n:Nat):Int)-1) (dE rfl) (mv 1 rfl (a0 (bM ?_))))))))))))
 refine dS (T:=a6×Nat×Int)
  (fun⟨wr,k,ii⟩=> [(0,.slice (some ⟨g,0,none⟩) n n),(3,.int .i64 ii)])
  (fun⟨wr,k,ii⟩=>wr)
  (fun⟨wr,k,ii⟩=>(Upd g w wr)∧(k≤n)∧(ii=(n:Int)-1-k)∧(v%10^k=10^k-1)∧(Bk wr g 5 ((aP n (v-(10^k-1))).map B8)))
  (fun⟨wr,k,ii⟩=>n-k)
  (⟨w,0,_⟩:a6×Nat×Int) ⟨Upd.refl g w,(bZ _),(by omega),(by rw [Nat.pow_zero,Nat.mod_one]),(show Bk w g 5 ((aP n (v-(10^0-1))).map B8) from hb0)⟩ rfl ⟨rfl,rfl,trivial⟩ ?_
 rintro⟨wr,k,ii⟩ ⟨hu,hk,hii,h9,hb⟩
 refine cM [(0,.slice (some ⟨g,0,none⟩) n n),(3,.int .i64 ii)] wr rfl ⟨rfl,rfl,trivial⟩ (aA (aA ?_))
 by_cases hkn:k<n
 · 
  refine bB [(0,.slice (some ⟨g,0,none⟩) n n),(3,.int .i64 ii)] ⟨rfl,rfl,trivial⟩ ?_
  rw [show ii=((n-1-k:Nat):Int) by omega]
  have hg:(aP n (v-(10^k-1))).getD (n-1-k) 0=48+v/10^k%10:=by rw [lN (by omega),show n-1-(n-1-k)=k by omega];congr 1;exact (NW h9 rfl)
  refine a8 (mv 1 rfl (aB rfl rfl rfl true (eI (a:=n-1-k) (b:=0) rfl rfl) (a0 (aM rfl (aN (aE (aA (bM (aA (aA ?_))))))))))
  by_cases hlt:(aP n (v-(10^k-1))).getD (n-1-k) 0<57
  · 
   have hc9:v/10^k%10<9:=by omega
   refine a8 (mv 2 rfl (bX rfl rfl rfl fJ fA (n-1-k) rfl ⟨g,n-1-k,none⟩ (dQ _ _) (aQ rfl rfl (uR pZ hb (by rw [(cV _ _)];omega)) (aB rfl rfl rfl true (dV (a:=(aP n (v-(10^k-1))).getD (n-1-k) 0) (b:=57) rfl rfl) (a0 (aM rfl (sr (mv 2 rfl (bX rfl rfl rfl fJ fA (n-1-k) rfl ⟨g,n-1-k,none⟩ (dQ _ _) (aQ rfl rfl (uR pZ hb (by rw [(cV _ _)];omega)) (aD rfl rfl rfl ((((aP n (v-(10^k-1))).getD (n-1-k) 0)+1:Nat):Int) (a0e (a:=(aP n (v-(10^k-1))).getD (n-1-k) 0) (b:=1) rfl rfl (by omega)) (bX rfl rfl rfl fJ fA (n-1-k) rfl ⟨g,n-1-k,none⟩ (dQ _ _) ?_))))))))))))
   have hb2:=hb
   refine eM rfl rfl rfl fA rfl hb2 (fV (by rw [(cV _ _)];omega)) rfl (((aP n (v-(10^k-1))).set (n-1-k) (((aP n (v-(10^k-1))).getD (n-1-k) 0)+1)).map B8) (oE _ _ _) fun v1 hb3 u4 hs5=>(a0 (sr (mv 1 rfl (a0 (aJ (bJ (dZ (bJ (mF (dZ (bJ (aI [F0] rfl ⟨rfl,trivial⟩ (⟨by rw [decide_eq_false (NZ hkn hc9)];rfl,hu.trans u4,?_⟩)))))))))))))
   have h:=hb3
   rw [hg,show 48+v/10^k%10+1=48+(v/10^k%10+1) by omega,CI hkn (by omega),(O0 h9 hc9 rfl).1] at h
   exact h
  · 
   have h9c:v/10^k%10=9:=by omega
   have hset:(aP n (v-(10^k-1))).set (n-1-k) 48=aP n (v-(10^(k+1)-1)):=by rw [show 48=48+0 from rfl,CI hkn (by decide),(NX h9 h9c rfl).1]
   refine a8 (mv 2 rfl (bX rfl rfl rfl fJ fA (n-1-k) rfl ⟨g,n-1-k,none⟩ (dQ _ _) (aQ rfl rfl (uR pZ hb (by rw [(cV _ _)];omega)) (aB rfl rfl rfl false (dP (a:=(aP n (v-(10^k-1))).getD (n-1-k) 0) (b:=57) rfl rfl) (a0 (aH rfl (aN (aE (a8 (mv 2 rfl (bX rfl rfl rfl fJ fA (n-1-k) rfl ⟨g,n-1-k,none⟩ (dQ _ _) ?_)))))))))))
   have hb7:=hb
   refine eM rfl rfl rfl fA rfl hb7 (fV (by rw [(cV _ _)];omega)) rfl (((aP n (v-(10^k-1))).set (n-1-k) 48).map B8) (oE _ _ _) fun v6 hb8 u9 hs10=>(aR (cE (aE (a8 (mv 1 rfl (aD rfl rfl rfl (((n-1-k:Nat):Int)-1) (dE rfl) (mv 1 rfl (aR (cU (⟨v6,k+1,_⟩:a6×Nat×Int) ⟨(hu.trans u9),(by omega),(by omega),(NY h9 h9c),(by have h:=hb8;rw [hset] at h;exact h)⟩ (show n-(k+1)<n-k by omega) rfl ⟨rfl,rfl,trivial⟩)))))))))
 · 
  refine a8 (mv 1 rfl (aB rfl rfl rfl false (iT) (a0 (aH rfl (dB (d7 (d9 (dA (aE (sr (mv 1 rfl (a0 (aJ ?_)))))))))))))
  refine aI [.bool true] rfl ⟨rfl,trivial⟩ ?_
  have hke:k=n:=by omega
  subst hke
  rw [fE hv] at h9
  have hp:=jG k
  refine⟨by rw [decide_eq_true (by omega)];rfl,hu,?_⟩
  rw [show v-(10^k-1)=0 by omega] at hb
  rw [show v+1=10^k by omega,KL]
  exact hb
theorem oG {x:Nat}(h:x≤18446744073709551615:=by omega):(wd x).length≤1:=fS (by rw [cF,Nat.pow_one];omega)
theorem AU (h:¬(n<dL m∧gA m (dL m-n)))(h0:0<m)(hn:1≤n):fR m n=dI m n∧gH m n=dL m-1:=by
 have h1:=m5 h0 hn
 have e:fZ m n=dI m n:=by unfold fZ;rw [if_neg h]
 unfold fR gH
 rw [e,if_neg (by omega),if_neg (by omega)]
 exact⟨rfl,rfl⟩
theorem FR (h:n<dL m∧gA m (dL m-n))(h2:¬dI m n+1=10^n):fR m n=dI m n+1∧gH m n=dL m-1:=by
 have e:fZ m n=dI m n+1:=by unfold fZ;rw [if_pos h]
 unfold fR gH
 rw [e,if_neg h2,if_neg h2]
 exact⟨rfl,rfl⟩
theorem FS (h:n<dL m∧gA m (dL m-n))(h2:dI m n+1=10^n):fR m n=10^(n-1)∧gH m n=dL m:=by
 have e:fZ m n=dI m n+1:=by unfold fZ;rw [if_pos h]
 unfold fR gH
 rw [e,if_pos h2,if_pos h2]
 exact⟨rfl,rfl⟩
theorem KN (hn:1≤n):(aP n (10^n)).set 0 49=aP n (10^(n-1)):=by
 rw [KL,show (0:Nat)=n-1-(n-1) by omega,show 49=48+1 from rfl,CI (by omega) (by decide)]
 congr 1
 simp
theorem O8 (m:Nat):qL ((m:Nat):Int)=aX 10 m:=by
 unfold qL;rw [if_neg (by omega),Int.natAbs_natCast]
theorem EU (h:0<m):aX 10 m≠ [48]:=fun e=>by
 have h1:=NU (m:=m)
 rw [e] at h1
 have:cB 10 ([48].map dv)=0:=rfl
 omega
theorem K4 (h:∀j,j<i→l.getD j 0=D.getD j 0)(hi:i<l.length)(hc:c=D.getD i 0):∀j,j<i+1→(l.set i c).getD j 0=D.getD j 0:=fun j hj=>by
 by_cases e:i=j
 ·subst e;rw [bD,List.getElem?_set_self hi,hc];rfl
 ·rw [bD,List.getElem?_set_ne e,←bD];exact h j (by omega)
theorem R6 (hs:s=aP (k+1) m)(hn:n<k+1):(∃i,i<(s.drop (n+1)).length∧(s.drop (n+1)).getD i 0≠48)↔m%10^(k-n)≠0:=by
 have e:s.drop (n+1)=aP (k-n) m:=by
  rw [hs,show k+1=(n+1)+(k-n) by omega];exact CL
 rw [e]
 constructor
 ·rintro⟨i,hi,hc⟩ h0
  exact hc (KJ h0 (iS hi))
 ·intro h
  refine DS fun hno=>h (KI fun c hc=>?_)
  obtain⟨i,hi,rfl⟩:=List.mem_iff_getElem.1 hc
  refine DS fun h48=>hno ⟨i,hi,?_⟩
  rw [bD,cK hi];exact h48
theorem UU {od:Bool}(h:mo=true↔od=true∨∃i,i<p∧l.getD i 0≠48)(hc:l.getD p 0=48):mo=true↔od=true∨∃i,i<p+1∧l.getD i 0≠48:=by
 rw [h]
 refine or_congr Iff.rfl ⟨fun⟨i,hi,h⟩=>⟨i,by omega,h⟩,fun⟨i,hi,h3⟩=>?_⟩
 by_cases hip:i=p
 ·subst hip;exact absurd hc h3
 ·exact⟨i,by omega,h3⟩
theorem IY {od:Bool}(h:(od=true∨∃i,i<p∧l.getD i 0≠48)∨l.getD p 0≠48):true=true↔od=true∨∃i,i<p+1∧l.getD i 0≠48:=by
 refine⟨fun _=>?_,fun _=>rfl⟩
 rcases h with (h | ⟨i,hi,h⟩) | h
 ·exact cH h
 ·exact bV ⟨i,by omega,h⟩
 ·exact bV ⟨p,by omega,h⟩
theorem WU {w:a6}{M:Nat}(hM:M=m)(hs:s=aX 10 M)(hS:Signs w)(hx:Wi w A an ac m)(hal:an≤4194304):aL aF 126 #[.slice A an ac] w (Gv w (Is (.string (a7 s)))):=by subst hM;subst hs;exact AV hS hx hal
theorem xN {w:a6}{s:Bool}(hx:Zi w s A n c ((X:Nat):Int))(la:n≤4194304)(hS:Signs w):aL aF 40 #[.agg #[.bool s,.slice A n c]] w (Gv w (Is (.string (a7 (aX 10 X))))):=by
 have h:=PX hx la hS
 rw [O8] at h
 exact h
set_option maxHeartbeats 8000000 in
set_option maxRecDepth 20000 in
theorem WG {w:a6}(hx:Zi w sa Aa na ca x)(la:na≤1048576)(hS:Signs w)(hx00:x≠0)(hn1:1≤n)(hn40:n≤40):
    aL aF 175 #[.agg #[.bool sa,.slice Aa na ca],.int .i64 n] w (Gv w (T2 (Is (.string (a7 (eF x n)))) (Is (.int .i64 0)))):=by
 have Lx:ln x≤1048576:=aK hx.ln la
 refine bL Tryz.func175 rfl (n:=113) rfl (bq rfl) (args:= [.agg #[.bool sa,.slice Aa na ca],.int .i64 n]) (bB [(0,.agg #[.bool sa,.slice Aa na ca]),(1,.int .i64 n)] ⟨rfl,rfl,trivial⟩ (sr (bx [.bool sa,.slice Aa na ca] (Ext.refl w) rfl rfl rfl fun g1 v2 hb4 ge5 e3 hw1=>(mv 2 rfl (a0 (aA (sr (mv 1 rfl (aB rfl rfl rfl false (dP (a:=n) (b:=1) rfl rfl) (mv 2 rfl (aB rfl rfl rfl false (cW (a:=n) (b:=40) rfl rfl) (pu (v:= .bool false) rfl (aR ?_)))))))))))))
 refine aE (aH rfl (aN (aE (aA ?_))))
 obtain⟨M,hM⟩:∃M,M=Int.natAbs x:=⟨_,rfl⟩
 have hM0:0<M:=by omega
 obtain⟨s,hs⟩:∃s,s=aX 10 M:=⟨_,rfl⟩
 obtain⟨kL,hkL,hk1,hk2,htx⟩:=CR hM0
 have hsl:s.length=kL+1:=by rw [hs];exact hkL
 have hsd:s=aP (kL+1) M:=by rw [hs,htx]
 have hs256:∀b,b∈s→b<256:=by rw [hsd];exact sW
 have hsn:s≠ [48]:=hs▸EU hM0
 have hsb:s.length≤67108865:=by rw [hs];exact pB (b:=10) (n:=1048576) (by rw [hM];exact Lx)
 refine a8 (pf g1 1 rfl (aQ rfl rfl (bE eW hb4 rfl) (cl (vs:= [.slice Aa na ca]) hw1 (WU hM hs (hS.ext hw1) (hx.ext hw1).wi (cC la rfl)) rfl (by kernel_rfl) fun xr8 v6 r8 e7 hw2=>?_)))
 obtain rfl:=r8
 refine mv 1 rfl (a0 (aA (sr (mv 1 rfl (fP (a:=s) (b:= [48]) rfl rfl rfl hs256 false (pC (hsn)) (a0 (aH rfl (aN (aE (sr (mv 1 rfl (bA rfl rfl (v:= .int .i64 (((a7 s).size:Nat):Int)) (v':= .int .i64 ((s.length:Nat):Int)) (by rw [cI]) (aD rfl rfl rfl ((s.length-1:Nat):Int) (eT (a:=s.length) (b:=1) rfl rfl) ?_)))))))))))))
 refine mv 1 rfl (a0 (sr (mv 1 rfl (mT rfl (k:=n) rfl rfl rfl fJ pT rfl fun g9 v10 hg11 hb12 e13=>?_))))
 rw [RB] at hb12
 have ge14:w.heap.size≤g9:=by rw [←hg11];exact hw2.size
 have q15:g1<g9:=by rw [←hg11];exact (hb4.ext e7).lt
 clear hg11
 have hw3:=hw2.trans e13
 refine mv 1 rfl (a0 (aA (sr (mv 1 rfl (pu (v:= .int .i64 n) rfl (mv 1 rfl (a0 (bM ?_))))))))
 refine dS (T:=a6×Nat×List Nat)
  (fun⟨wr,i,l⟩=> [(1,.int .i64 n),(2,.pointer (some ⟨g1,0,none⟩)),(6,.string (a7 s)),(7,.int .i64 ((s.length-1:Nat):Int)),(8,.slice (some ⟨g9,0,none⟩) n n),(32,.int .i64 n),(33,.int .i64 i)])
  (fun⟨wr,i,l⟩=>wr)
  (fun⟨wr,i,l⟩=>(Ext w wr)∧(i≤n)∧(Bk wr g9 5 (l.map B8))∧(l.length=n)∧(∀j,j<i→l.getD j 0=(aP n (dI M n)).getD j 0)∧(Bk wr g1 24 [.bool sa,.slice Aa na ca]))
  (fun⟨wr,i,l⟩=>n-i)
  (⟨v10,0,_⟩:a6×Nat×List Nat) ⟨hw3,(bZ _),hb12,(List.length_replicate (n:=n) (a:=0)),(fun j hj=>absurd hj (Nat.not_lt_zero _)),(hb4.ext (e7.trans e13))⟩ rfl ⟨rfl,rfl,rfl,rfl,rfl,rfl,rfl,trivial⟩ ?_
 rintro⟨wr,i,l⟩ ⟨hw1,hi,hb,hl,hI,hbx⟩
 refine cM [(1,.int .i64 n),(2,.pointer (some ⟨g1,0,none⟩)),(6,.string (a7 s)),(7,.int .i64 ((s.length-1:Nat):Int)),(8,.slice (some ⟨g9,0,none⟩) n n),(32,.int .i64 n),(33,.int .i64 i)] wr rfl ⟨rfl,rfl,rfl,rfl,rfl,rfl,rfl,trivial⟩ (aA ?_)
 by_cases hlt:i<n
 · 
  refine a8 (aB rfl rfl rfl true (dV (a:=i) (b:=n) rfl rfl) (a0 (aA (aM rfl (aN (aE (aA (bM (sr (mv 2 rfl (a0 (sr (mv 1 rfl ?_)))))))))))))
  refine mv 1 rfl (bX rfl rfl rfl fJ fA i rfl ⟨g9,i,none⟩ (dQ _ _) ?_)
  have hb17:=hb
  refine eM rfl rfl rfl fA rfl hb17 (fV (by rw [hl];omega)) rfl ((l.set i 48).map B8) (oE _ _ _) fun v16 hb18 u19 hs20=>?_
  have hw2:=u19.ext hw1 ge14
  refine a0 (aA ?_)
  by_cases his:i<s.length
  · 
   refine a8 (mv 2 rfl (bA rfl rfl (v:= .int .i64 (((a7 s).size:Nat):Int)) (v':= .int .i64 ((s.length:Nat):Int)) (by rw [cI]) (aB rfl rfl rfl true (dV (a:=i) (b:=s.length) rfl rfl) (a0 (aM rfl ?_)))))
   have hc256:s.getD i 0<256:=hs256 _ (iS his)
   refine a8 (mv 4 rfl (dD (bs:=s) (i:=i) rfl rfl rfl Tryz.underlying9 hs256 (bX rfl rfl rfl fJ fA i rfl ⟨g9,i,none⟩ (dQ _ _) (eM rfl rfl rfl fA rfl hb18 (fV (by rw [(gO (l:=l) (hl))];omega)) rfl (((l.set i 48).set i (s.getD i 0)).map B8) (oE _ _ _) fun v21 hb23 u24 hs25=>?_))))
   have hw3:=u24.ext hw2 ge14
   refine aR (cE (aE (a8 (aD rfl rfl rfl ((i+1:Nat):Int) (bF (a:=i) (b:=1) rfl rfl) (mv 1 rfl (aR (cU (⟨v21,i+1,(l.set i 48).set i (s.getD i 0)⟩:a6×Nat×List Nat) ⟨hw3,(by omega),hb23,(gO (l:=l.set i 48) ((gO (l:=l) (hl)))),(by rw [List.set_set];exact K4 hI (by omega) (by rw [F7 hkL htx hlt,if_pos (by omega),←hs])),((hbx.updN u19 (by omega)).updN u24 (by omega))⟩ (show n-(i+1)<n-i by omega) rfl ⟨rfl,rfl,rfl,rfl,rfl,rfl,rfl,trivial⟩)))))))
  · 
   refine a8 (mv 2 rfl (bA rfl rfl (v:= .int .i64 (((a7 s).size:Nat):Int)) (v':= .int .i64 ((s.length:Nat):Int)) (by rw [cI]) (aB rfl rfl rfl false (dP (a:=i) (b:=s.length) rfl rfl) (a0 (aH rfl (aN (cE (aE (a8 (aD rfl rfl rfl ((i+1:Nat):Int) (bF (a:=i) (b:=1) rfl rfl) (mv 1 rfl (aR (cU (⟨v16,i+1,l.set i 48⟩:a6×Nat×List Nat) ⟨hw2,(by omega),hb18,(gO (l:=l) (hl)),(K4 hI (by omega) (by rw [F7 hkL htx hlt,if_neg (by omega)])),(hbx.updN u19 (by omega))⟩ (show n-(i+1)<n-i by omega) rfl ⟨rfl,rfl,rfl,rfl,rfl,rfl,rfl,trivial⟩)))))))))))))
 · 
  have hin:i=n:=by omega
  have hlD:l=aP n (dI M n):=BW (by rw [hl,cV]) (fun j hj=>hI j (by omega))
  subst hlD
  refine a8 (aB rfl rfl rfl false (dP (a:=i) (b:=n) rfl rfl) (a0 (aA (aH rfl (dB (d7 (d9 (dA (aE (gR (T:=a6×Nat×Nat) (fun⟨wr,X,Q⟩=> [(1,.int .i64 n),(2,.pointer (some ⟨g1,0,none⟩)),(7,.int .i64 X),(8,.slice (some ⟨g9,0,none⟩) n n)]) (fun⟨wr,X,Q⟩=>wr) (fun⟨wr,X,Q⟩=>(Ext w wr)∧(Bk wr g9 5 ((aP n Q).map B8))∧(Bk wr g1 24 [.bool sa,.slice Aa na ca])∧(X=gH M n)∧(Q=fR M n)∧(X≤67108865)) ?_ ?_))))))))))
  · 
   refine aA ?_
   by_cases hsn2:s.length>n
   · 
    have hnL:n<dL M:=by rw [hkL];omega
    have hLn:dL M-n=(kL-n)+1:=by rw [hkL];omega
    have hcn:s.getD n 0=48+M/10^(kL-n)%10:=by rw [hsd,lN (by omega),show kL+1-1-n=kL-n by omega]
    have hsv:dI M n=M/10^(kL-n+1):=by unfold dI;rw [if_neg (by omega),hLn]
    refine a8 (mv 1 rfl (bA rfl rfl (v:= .int .i64 (((a7 s).size:Nat):Int)) (v':= .int .i64 ((s.length:Nat):Int)) (by rw [cI]) (mv 1 rfl (aB rfl rfl rfl true (dC (a:=s.length) (b:=n) rfl rfl) (a0 (aM rfl (aA ?_)))))))
    by_cases hg5:s.getD n 0>53
    · 
     refine a8 (mv 2 rfl (dD (bs:=s) (i:=n) rfl rfl rfl Tryz.underlying9 hs256 (aB rfl rfl rfl true (dC (a:=s.getD n 0) (b:=53) rfl rfl) (mv 1 rfl (a0 (gR (T:=a6×Bool) (fun⟨wr,mo⟩=> [(1,.int .i64 n),(2,.pointer (some ⟨g1,0,none⟩)),(7,.int .i64 ((s.length-1:Nat):Int)),(8,.slice (some ⟨g9,0,none⟩) n n),(10,.bool mo)]) (fun⟨wr,mo⟩=>wr) (fun⟨wr,mo⟩=>(Ext w wr)∧(Bk wr g9 5 ((aP n (dI M n)).map B8))∧(Bk wr g1 24 [.bool sa,.slice Aa na ca])∧(mo=true↔gA M (dL M-n))) ?_ ?_))))))
     · 
      refine sr (mv 2 rfl (dD (bs:=s) (i:=n) rfl rfl rfl Tryz.underlying9 hs256 (aB rfl rfl rfl false (d4 (a:=s.getD n 0) (b:=53) rfl rfl) (a0 (aH rfl (aN (d5 (⟨wr,true⟩:a6×Bool) ⟨hw1,hb,hbx,(by rw [hLn];exact⟨fun _=>(QJ (by omega)),fun _=>rfl⟩)⟩ rfl ⟨rfl,rfl,rfl,rfl,rfl,trivial⟩)))))))
     · 
      rintro⟨wr,mo⟩ ⟨hw1,hb,hbx,hmo⟩
      refine cM [(1,.int .i64 n),(2,.pointer (some ⟨g1,0,none⟩)),(7,.int .i64 ((s.length-1:Nat):Int)),(8,.slice (some ⟨g9,0,none⟩) n n),(10,.bool mo)] wr rfl ⟨rfl,rfl,rfl,rfl,rfl,trivial⟩ (aA ?_)
      cases mo
      · 
       have hsq:=AU (fun h=>by have:=hmo.2 h.2;cases this) hM0 hn1
       refine a8 (mv 4 rfl (pu (v:= .bool false) rfl (a0 (aH rfl (aN (d5 (⟨wr,s.length-1,fR M n⟩:a6×Nat×Nat) ⟨hw1,(by rw [hsq.1];exact hb),hbx,(by rw [hsq.2,hkL,hsl]),rfl,(by omega)⟩ rfl ⟨rfl,rfl,rfl,rfl,trivial⟩))))))
      · 
       have hr:=hmo.1 rfl
       by_cases hov:dI M n+1=10^n
       · 
        have hsq:=FS ⟨hnL,hr⟩ hov
        refine a8 (mv 3 rfl (eA rfl rfl (vs:= [.slice (some ⟨g9,0,none⟩) n n]) (by kernel_rfl) (by decide) (xP hb (m5 hM0 hn1).1 hn1) ?_))
        rintro _ v26 ⟨rfl,u27,hb28⟩
        refine eC ?_
        rw [decide_eq_true hov]
        have hw2:=u27.ext hw1 ge14
        refine pu (v:= .bool true) rfl (a0 (aM rfl (sr (mv 1 rfl (bX rfl rfl rfl fJ fA 0 rfl ⟨g9,0,none⟩ (dQ _ _) (eM rfl rfl rfl fA rfl hb28 (fV (by rw [(cV _ _)];omega)) rfl (((aP n (dI M n+1)).set 0 49).map B8) (oE _ _ _) fun v29 hb31 u32 hs33=>?_))))))
        have hw3:=u32.ext hw2 ge14
        refine a0 (a8 (mv 1 rfl (aD rfl rfl rfl (((s.length-1)+1:Nat):Int) (bF (a:=s.length-1) (b:=1) rfl rfl) (mv 1 rfl (aR (d5 (⟨v29,(s.length-1)+1,fR M n⟩:a6×Nat×Nat) ⟨hw3,(by rw [hsq.1,←KN hn1,←hov];exact hb31),((hbx.updN u27 (by omega)).updN u32 (by omega)),(by rw [hsq.2,hkL,hsl];omega),rfl,(by omega)⟩ rfl ⟨rfl,rfl,rfl,rfl,trivial⟩))))))
       · 
        have hsq:=FR ⟨hnL,hr⟩ hov
        refine a8 (mv 3 rfl (eA rfl rfl (vs:= [.slice (some ⟨g9,0,none⟩) n n]) (by kernel_rfl) (by decide) (xP hb (m5 hM0 hn1).1 hn1) ?_))
        rintro _ v34 ⟨rfl,u35,hb36⟩
        refine eC ?_
        rw [decide_eq_false hov]
        have hw2:=u35.ext hw1 ge14
        refine pu (v:= .bool false) rfl (a0 (aH rfl (aN (d5 (⟨v34,s.length-1,fR M n⟩:a6×Nat×Nat) ⟨hw2,(by rw [hsq.1];exact hb36),(hbx.updN u35 (by omega)),(by rw [hsq.2,hkL,hsl]),rfl,(by omega)⟩ rfl ⟨rfl,rfl,rfl,rfl,trivial⟩))))
    · 
     refine a8 (mv 2 rfl (dD (bs:=s) (i:=n) rfl rfl rfl Tryz.underlying9 hs256 (aB rfl rfl rfl false (cW (a:=s.getD n 0) (b:=53) rfl rfl) (mv 1 rfl (a0 (gR (T:=a6×Bool) (fun⟨wr,mo⟩=> [(1,.int .i64 n),(2,.pointer (some ⟨g1,0,none⟩)),(7,.int .i64 ((s.length-1:Nat):Int)),(8,.slice (some ⟨g9,0,none⟩) n n),(10,.bool mo)]) (fun⟨wr,mo⟩=>wr) (fun⟨wr,mo⟩=>(Ext w wr)∧(Bk wr g9 5 ((aP n (dI M n)).map B8))∧(Bk wr g1 24 [.bool sa,.slice Aa na ca])∧(mo=true↔gA M (dL M-n))) ?_ ?_))))))
     · 
      refine aA ?_
      by_cases he5:s.getD n 0=53
      · 
       have h5:M/10^(kL-n)%10=5:=by omega
       refine a8 (mv 2 rfl (dD (bs:=s) (i:=n) rfl rfl rfl Tryz.underlying9 hs256 (aB rfl rfl rfl true (cZ (a:=s.getD n 0) (b:=53) rfl rfl) (a0 (aM rfl (gR (T:=a6×Bool) (fun⟨wr,od⟩=> [(1,.int .i64 n),(2,.pointer (some ⟨g1,0,none⟩)),(6,.string (a7 s)),(7,.int .i64 ((s.length-1:Nat):Int)),(8,.slice (some ⟨g9,0,none⟩) n n),(10,.bool od)]) (fun⟨wr,od⟩=>wr) (fun⟨wr,od⟩=>(Ext w wr)∧(Bk wr g9 5 ((aP n (dI M n)).map B8))∧(Bk wr g1 24 [.bool sa,.slice Aa na ca])∧(od=decide (dI M n%2=1))) ?_ ?_))))))
       · 
        have hod:(aP n (dI M n)).getD (n-1) 0%2=dI M n%2:=by rw [lN (by omega),Nat.sub_self,Nat.pow_zero,Nat.div_one];omega
        have hod8:(aP n (dI M n)).getD (n-1) 0≤255:=by have:=sW _ (iS (l:=aP n (dI M n)) (i:=n-1) (by rw [cV];omega));omega
        by_cases hodd:((aP n (dI M n)).getD (n-1) 0)%2=1
        · 
         refine a8 (mv 2 rfl (aD rfl rfl rfl ((n-1:Nat):Int) (eT (a:=n) (b:=1) rfl rfl) (bX rfl rfl rfl fJ fA (n-1) rfl ⟨g9,n-1,none⟩ (dQ _ _) (aQ rfl rfl (uR pZ hb (by rw [(cV _ _)];omega)) (bO rfl rfl rfl (r:= .int .u8 ((((aP n (dI M n)).getD (n-1) 0)%2:Nat):Int)) rfl (fun w=>EL (x:=(aP n (dI M n)).getD (n-1) 0) (by omega) _ _ w) (aB rfl rfl rfl true (cZ (a:=((aP n (dI M n)).getD (n-1) 0)%2) (b:=1) rfl rfl) (mv 1 rfl (aR (d5 (⟨wr,true⟩:a6×Bool) ⟨hw1,hb,hbx,(by rw [decide_eq_true (by omega)])⟩ rfl ⟨rfl,rfl,rfl,rfl,rfl,rfl,trivial⟩)))))))))
        · 
         refine a8 (mv 2 rfl (aD rfl rfl rfl ((n-1:Nat):Int) (eT (a:=n) (b:=1) rfl rfl) (bX rfl rfl rfl fJ fA (n-1) rfl ⟨g9,n-1,none⟩ (dQ _ _) (aQ rfl rfl (uR pZ hb (by rw [(cV _ _)];omega)) (bO rfl rfl rfl (r:= .int .u8 ((((aP n (dI M n)).getD (n-1) 0)%2:Nat):Int)) rfl (fun w=>EL (x:=(aP n (dI M n)).getD (n-1) 0) (by omega) _ _ w) (aB rfl rfl rfl false (d4 (a:=((aP n (dI M n)).getD (n-1) 0)%2) (b:=1) rfl rfl) (mv 1 rfl (aR (d5 (⟨wr,false⟩:a6×Bool) ⟨hw1,hb,hbx,(by rw [decide_eq_false (by omega)])⟩ rfl ⟨rfl,rfl,rfl,rfl,rfl,rfl,trivial⟩)))))))))
       · 
        rintro⟨wr,od⟩ ⟨hw1,hb,hbx,hod⟩
        refine cM [(1,.int .i64 n),(2,.pointer (some ⟨g1,0,none⟩)),(6,.string (a7 s)),(7,.int .i64 ((s.length-1:Nat):Int)),(8,.slice (some ⟨g9,0,none⟩) n n),(10,.bool od)] wr rfl ⟨rfl,rfl,rfl,rfl,rfl,rfl,trivial⟩ (aA ?_)
        have hr256:∀b,b∈s.drop (n+1)→b<256:=fun b hb=>hs256 b (gG hb)
        have hrl:(s.drop (n+1)).length=s.length-(n+1):=cO
        refine a8 (mv 2 rfl (aD rfl rfl rfl ((n+1:Nat):Int) (bF (a:=n) (b:=1) rfl rfl) (lW (bs:=s) (i:=n+1) rfl rfl rfl Tryz.underlying9 (E8 (bs:=s.drop (n+1)) rfl rfl Tryz.underlying9 (by decide) fun g37 v38 hg39 it40 e41=>?_))))
        have ge42:w.heap.size≤g37:=by rw [←hg39];exact hw1.size
        have q43:g9<g37:=by rw [←hg39];exact (hb).lt
        have q44:g1<g37:=by rw [←hg39];exact (hbx).lt
        clear hg39
        have hw2:=hw1.trans e41
        refine a0 (bM ?_)
        refine dS (T:=a6×Nat×Bool)
         (fun⟨wr,p,mo⟩=> [(1,.int .i64 n),(2,.pointer (some ⟨g1,0,none⟩)),(6,.string (a7 s)),(7,.int .i64 ((s.length-1:Nat):Int)),(8,.slice (some ⟨g9,0,none⟩) n n),(10,.bool mo),(73,.pointer (some ⟨g37,0,none⟩))])
         (fun⟨wr,p,mo⟩=>wr)
         (fun⟨wr,p,mo⟩=>(Ext w wr)∧(Bk wr g9 5 ((aP n (dI M n)).map B8))∧(Bk wr g1 24 [.bool sa,.slice Aa na ca])∧(It wr g37 (s.drop (n+1)) p)∧(p≤(s.drop (n+1)).length)∧(mo=true↔od=true∨∃i,i<p∧(s.drop (n+1)).getD i 0≠48))
         (fun⟨wr,p,mo⟩=>(s.drop (n+1)).length-p)
         (⟨v38,0,od⟩:a6×Nat×Bool) ⟨hw2,(hb.ext e41),(hbx.ext e41),it40,(bZ _),(by simp)⟩ rfl ⟨rfl,rfl,rfl,rfl,rfl,rfl,rfl,trivial⟩ ?_
        rintro⟨wr,p,mo⟩ ⟨hw1,hb,hbx,hit,hp,hmo⟩
        refine cM [(1,.int .i64 n),(2,.pointer (some ⟨g1,0,none⟩)),(6,.string (a7 s)),(7,.int .i64 ((s.length-1:Nat):Int)),(8,.slice (some ⟨g9,0,none⟩) n n),(10,.bool mo),(73,.pointer (some ⟨g37,0,none⟩))] wr rfl ⟨rfl,rfl,rfl,rfl,rfl,rfl,rfl,trivial⟩ (aA ?_)
        by_cases hlt:p<(s.drop (n+1)).length
        · 
         have hc128:(s.drop (n+1)).getD p 0<128:=by have:=iS hlt;have:=(hsd▸(fun c (hc:c∈s)=>hc):∀c,c∈s→c∈aP (kL+1) M) _ (gG this);have:=kB this;omega
         refine a8 ?_
         have it45:=hit
         refine EB rfl rfl hr256 it45 (by omega) (by decide) fun v46 r47 z48 hr49 it50 u51=>?_
         have hw2:=u51.ext hw1 ge42
         obtain⟨rfl,rfl⟩:=hr49.low (by omega)
         refine pu (v:= .bool true) rfl (a0 (aA (aM rfl (aN (aE (bM (sr (pu (v:= .int .i32 (((s.drop (n+1)).getD p 0:Nat):Int)) rfl (mv 1 rfl (a0 ?_))))))))))
         cases mo
         · 
          by_cases hne:(s.drop (n+1)).getD p 0≠48
          · 
           refine a8 (mv 3 rfl (aB rfl rfl rfl true (vC (a:=(s.drop (n+1)).getD p 0) (b:=48) rfl rfl) (pu (v:= .bool true) rfl (mv 1 rfl (aR (cE (cU (⟨v46,p+1,true⟩:a6×Nat×Bool) ⟨hw2,(hb.updN u51 (by omega)),(hbx.updN u51 (by omega)),it50,(by omega),(IY (bV hne))⟩ (show (s.drop (n+1)).length-(p+1)<(s.drop (n+1)).length-p by omega) rfl ⟨rfl,rfl,rfl,rfl,rfl,rfl,rfl,trivial⟩)))))))
          · 
           refine a8 (mv 3 rfl (aB rfl rfl rfl false (vD (a:=(s.drop (n+1)).getD p 0) (b:=48) rfl rfl) (pu (v:= .bool false) rfl (mv 1 rfl (aR (cE (cU (⟨v46,p+1,false⟩:a6×Nat×Bool) ⟨hw2,(hb.updN u51 (by omega)),(hbx.updN u51 (by omega)),it50,(by omega),(UU hmo (by omega))⟩ (show (s.drop (n+1)).length-(p+1)<(s.drop (n+1)).length-p by omega) rfl ⟨rfl,rfl,rfl,rfl,rfl,rfl,rfl,trivial⟩)))))))
         · 
          refine a8 (mv 4 rfl (pu (v:= .bool true) rfl (mv 1 rfl (aR (cE (cU (⟨v46,p+1,true⟩:a6×Nat×Bool) ⟨hw2,(hb.updN u51 (by omega)),(hbx.updN u51 (by omega)),it50,(by omega),(IY (cH (hmo.1 rfl)))⟩ (show (s.drop (n+1)).length-(p+1)<(s.drop (n+1)).length-p by omega) rfl ⟨rfl,rfl,rfl,rfl,rfl,rfl,rfl,trivial⟩))))))
        · 
         have hpe:p=(s.drop (n+1)).length:=by omega
         subst hpe
         have hrest:=R6 hsd (show n<kL+1 by omega)
         refine a8 ?_
         have it52:=hit
         refine EA rfl rfl it52 (by omega) (by decide) (pu (v:= .bool false) rfl (a0 (aA (aH rfl (dB (d7 (d9 (dA (d5 (⟨wr,mo⟩:a6×Bool) ⟨hw1,hb,hbx,(by rw [hLn,QK h5,←hsv,hmo,hod,decide_eq_true_eq,hrest])⟩ rfl ⟨rfl,rfl,rfl,rfl,rfl,trivial⟩)))))))))
      · 
       refine a8 (mv 2 rfl (dD (bs:=s) (i:=n) rfl rfl rfl Tryz.underlying9 hs256 (aB rfl rfl rfl false (d4 (a:=s.getD n 0) (b:=53) rfl rfl) (a0 (aH rfl (aN (d5 (⟨wr,false⟩:a6×Bool) ⟨hw1,hb,hbx,(by rw [hLn];exact⟨fun h=>(by cases h),fun h=>absurd h (QI (by omega))⟩)⟩ rfl ⟨rfl,rfl,rfl,rfl,rfl,trivial⟩)))))))
     · 
      rintro⟨wr,mo⟩ ⟨hw1,hb,hbx,hmo⟩
      refine cM [(1,.int .i64 n),(2,.pointer (some ⟨g1,0,none⟩)),(7,.int .i64 ((s.length-1:Nat):Int)),(8,.slice (some ⟨g9,0,none⟩) n n),(10,.bool mo)] wr rfl ⟨rfl,rfl,rfl,rfl,rfl,trivial⟩ (aA ?_)
      cases mo
      · 
       have hsq:=AU (fun h=>by have:=hmo.2 h.2;cases this) hM0 hn1
       refine a8 (mv 4 rfl (pu (v:= .bool false) rfl (a0 (aH rfl (aN (d5 (⟨wr,s.length-1,fR M n⟩:a6×Nat×Nat) ⟨hw1,(by rw [hsq.1];exact hb),hbx,(by rw [hsq.2,hkL,hsl]),rfl,(by omega)⟩ rfl ⟨rfl,rfl,rfl,rfl,trivial⟩))))))
      · 
       have hr:=hmo.1 rfl
       by_cases hov:dI M n+1=10^n
       · 
        have hsq:=FS ⟨hnL,hr⟩ hov
        refine a8 (mv 3 rfl (eA rfl rfl (vs:= [.slice (some ⟨g9,0,none⟩) n n]) (by kernel_rfl) (by decide) (xP hb (m5 hM0 hn1).1 hn1) ?_))
        rintro _ v53 ⟨rfl,u54,hb55⟩
        refine eC ?_
        rw [decide_eq_true hov]
        have hw2:=u54.ext hw1 ge14
        refine pu (v:= .bool true) rfl (a0 (aM rfl (sr (mv 1 rfl (bX rfl rfl rfl fJ fA 0 rfl ⟨g9,0,none⟩ (dQ _ _) (eM rfl rfl rfl fA rfl hb55 (fV (by rw [(cV _ _)];omega)) rfl (((aP n (dI M n+1)).set 0 49).map B8) (oE _ _ _) fun v56 hb58 u59 hs60=>?_))))))
        have hw3:=u59.ext hw2 ge14
        refine a0 (a8 (mv 1 rfl (aD rfl rfl rfl (((s.length-1)+1:Nat):Int) (bF (a:=s.length-1) (b:=1) rfl rfl) (mv 1 rfl (aR (d5 (⟨v56,(s.length-1)+1,fR M n⟩:a6×Nat×Nat) ⟨hw3,(by rw [hsq.1,←KN hn1,←hov];exact hb58),((hbx.updN u54 (by omega)).updN u59 (by omega)),(by rw [hsq.2,hkL,hsl];omega),rfl,(by omega)⟩ rfl ⟨rfl,rfl,rfl,rfl,trivial⟩))))))
       · 
        have hsq:=FR ⟨hnL,hr⟩ hov
        refine a8 (mv 3 rfl (eA rfl rfl (vs:= [.slice (some ⟨g9,0,none⟩) n n]) (by kernel_rfl) (by decide) (xP hb (m5 hM0 hn1).1 hn1) ?_))
        rintro _ v61 ⟨rfl,u62,hb63⟩
        refine eC ?_
        rw [decide_eq_false hov]
        have hw2:=u62.ext hw1 ge14
        refine pu (v:= .bool false) rfl (a0 (aH rfl (aN (d5 (⟨v61,s.length-1,fR M n⟩:a6×Nat×Nat) ⟨hw2,(by rw [hsq.1];exact hb63),(hbx.updN u62 (by omega)),(by rw [hsq.2,hkL,hsl]),rfl,(by omega)⟩ rfl ⟨rfl,rfl,rfl,rfl,trivial⟩))))
   · 
    have hnL:¬(n<dL M∧gA M (dL M-n)):=fun h=>by have:=h.1;rw [hkL] at this;omega
    have hsq:=AU hnL hM0 hn1
    refine a8 (mv 1 rfl (bA rfl rfl (v:= .int .i64 (((a7 s).size:Nat):Int)) (v':= .int .i64 ((s.length:Nat):Int)) (by rw [cI]) (mv 1 rfl (aB rfl rfl rfl false (cW (a:=s.length) (b:=n) rfl rfl) (a0 (aH rfl (aN (d5 (⟨wr,s.length-1,fR M n⟩:a6×Nat×Nat) ⟨hw1,(by rw [hsq.1];exact hb),hbx,(by rw [hsq.2,hkL,hsl]),rfl,(by omega)⟩ rfl ⟨rfl,rfl,rfl,rfl,trivial⟩))))))))
  · 
   rintro⟨wr,X,Q⟩ ⟨hw1,hb,hbx,hX,hQ,hXl⟩
   refine cM [(1,.int .i64 n),(2,.pointer (some ⟨g1,0,none⟩)),(7,.int .i64 X),(8,.slice (some ⟨g9,0,none⟩) n n)] wr rfl ⟨rfl,rfl,rfl,rfl,trivial⟩ (sr (mv 1 rfl (a0 (aA (aA ?_)))))
   by_cases hx0:x<0
   · 
    refine a8 (lo cD hbx [.bool sa,.slice Aa na ca] rfl rfl rfl (cl (vs:= [.agg #[.bool sa,.slice Aa na ca]]) hw1 (nD (hx.ext hw1) (cC la rfl)) rfl (by kernel_rfl) fun xr66 v64 r66 e65 hw2=>?_))
    obtain rfl:=r66
    refine aB rfl rfl rfl true (FN hx0) (a0 (aM rfl (a8 (mv 1 rfl (a0 (aA ?_))))))
    have hT17:True:=trivial
    refine a8 (mv 2 rfl ?_)
    have rb67:Rb 256 v64 (some ⟨g9,0,none⟩:Option aC) n n (aP n Q):=yN (hb.ext e65) (cV _ _) sW
    refine kZ rfl rfl fJ fA (lo:=0) (hi:=1) rfl rfl (by omega) (by have:=rb67.rv.le;omega) (v:= .slice (some ⟨g9,0,none⟩:Option aC) 1 n) (tW _ _ _) (by decide) (vV (bs:=(aP n Q).take 1) rfl rfl ((rb67.take (k:=1) (by omega))).rv (bO rfl rfl rfl (r:= .string (a7 (([45])++((aP n Q).take 1)))) rfl (fun w=>cX (a:= [45]) (b:=(aP n Q).take 1) (by have:=hT17;simp only [bK,cJ,List.length_nil,cV];omega)) (mv 1 rfl (a0 (aA (aA ?_))))))
    by_cases hn2:n>1
    · 
     refine a8 (mv 1 rfl (aB rfl rfl rfl true (dC (a:=n) (b:=1) rfl rfl) (a0 (aM rfl (a8 (mv 2 rfl ?_))))))
     have rb68:Rb 256 v64 (some ⟨g9,0,none⟩:Option aC) n n (aP n Q):=yN (hb.ext e65) (cV _ _) sW
     refine kZ rfl rfl fJ fA (lo:=1) (hi:=n) rfl rfl (by omega) (by have:=rb68.rv.le;omega) (v:= .slice (if n=1 then (some ⟨g9,0,none⟩:Option aC) else (some ⟨g9,0,none⟩:Option aC).map (·.add (1*1))) (n-1) (n-1)) (tX _ _ _ _) (by decide) (vV (bs:=(aP n Q).drop 1) rfl rfl ((rb68.drop (k:=1) (by omega))).rv (bO rfl rfl rfl (r:= .string (a7 (([46])++((aP n Q).drop 1)))) rfl (fun w=>cX (a:= [46]) (b:=(aP n Q).drop 1) (by have:=hT17;simp only [cO,cJ,List.length_nil,cV];omega)) (bO rfl rfl rfl (r:= .string (a7 ((([45])++((aP n Q).take 1))++(([46])++((aP n Q).drop 1))))) rfl (fun w=>cX (a:=([45])++((aP n Q).take 1)) (b:=([46])++((aP n Q).drop 1)) (by have:=hT17;simp only [cR,bK,cO,cJ,List.length_nil,cV];omega)) (mv 1 rfl (a0 (aA ?_))))))
     have hT17:(aX 10 X).length≤65:=pB (b:=10) (n:=1) (oG)
     refine a8 (mv 1 rfl (bO rfl rfl rfl (r:= .string (a7 (((([45])++((aP n Q).take 1))++(([46])++((aP n Q).drop 1)))++([101])))) rfl (fun w=>cX (a:=(([45])++((aP n Q).take 1))++(([46])++((aP n Q).drop 1))) (b:= [101]) (by have:=hT17;simp only [cR,bK,cO,cJ,List.length_nil,cV];omega)) (mv 1 rfl (cl (vs:= [.int .i64 X]) hw2 (xO hw2.size (by omega) (by omega)) rfl (by kernel_rfl) fun xr71 v69 r71 qZ hw3=>?_))))
     obtain⟨s72,A72,n72,c72,rfl,z72⟩:=r71
     refine cl (vs:= [.agg #[.bool s72,.slice A72 n72 c72]]) hw3 (xN z72.zi (z72.le (aK (show ln ((X:Nat):Int)≤1 by rw [pS];exact oG) (by decide))) (hS.ext hw3)) rfl (by kernel_rfl) fun xr75 v73 r75 bN hw4=>?_
     obtain rfl:=r75
     refine bO rfl rfl rfl (r:= .string (a7 ((((([45])++((aP n Q).take 1))++(([46])++((aP n Q).drop 1)))++([101]))++(aX 10 X)))) rfl (fun w=>cX (a:=((([45])++((aP n Q).take 1))++(([46])++((aP n Q).drop 1)))++([101])) (b:=aX 10 X) (by have:=hT17;simp only [cR,bK,cO,cJ,List.length_nil,cV];omega)) (mv 2 rfl (a0 (aJ (aI [.string (a7 ((((([45])++((aP n Q).take 1))++(([46])++((aP n Q).drop 1)))++([101]))++(aX 10 X))),I0] rfl ⟨rfl,rfl,trivial⟩ ?_))))
     have ht:((((([45])++((aP n Q).take 1))++(([46])++((aP n Q).drop 1)))++([101]))++(aX 10 X):List Nat)=eF x n:=by unfold eF pE;rw [if_neg hx00,if_pos hx0,←hM,←hX,←hQ];rw [if_pos (show 1<n by omega)];simp only [List.append_assoc]
     exact⟨_,rfl,⟨_,_,rfl,(show Value.string _=Value.string _ from congrArg (fun l=>Value.string (a7 l)) ht),rfl⟩,hw4⟩
    · 
     refine a8 (mv 1 rfl (aB rfl rfl rfl false (cW (a:=n) (b:=1) rfl rfl) (a0 (aH rfl (aN (aE (aA ?_)))))))
     have hT17:(aX 10 X).length≤65:=pB (b:=10) (n:=1) (oG)
     refine a8 (mv 1 rfl (bO rfl rfl rfl (r:= .string (a7 ((([45])++((aP n Q).take 1))++([101])))) rfl (fun w=>cX (a:=([45])++((aP n Q).take 1)) (b:= [101]) (by have:=hT17;simp only [cR,bK,cJ,List.length_nil,cV];omega)) (mv 1 rfl (cl (vs:= [.int .i64 X]) hw2 (xO hw2.size (by omega) (by omega)) rfl (by kernel_rfl) fun xr78 v76 r78 e77 hw3=>?_))))
     obtain⟨s79,A79,n79,c79,rfl,z79⟩:=r78
     refine cl (vs:= [.agg #[.bool s79,.slice A79 n79 c79]]) hw3 (xN z79.zi (z79.le (aK (show ln ((X:Nat):Int)≤1 by rw [pS];exact oG) (by decide))) (hS.ext hw3)) rfl (by kernel_rfl) fun xr82 v80 r82 e81 hw4=>?_
     obtain rfl:=r82
     refine bO rfl rfl rfl (r:= .string (a7 (((([45])++((aP n Q).take 1))++([101]))++(aX 10 X)))) rfl (fun w=>cX (a:=(([45])++((aP n Q).take 1))++([101])) (b:=aX 10 X) (by have:=hT17;simp only [cR,bK,cJ,List.length_nil,cV];omega)) (mv 2 rfl (a0 (aJ (aI [.string (a7 (((([45])++((aP n Q).take 1))++([101]))++(aX 10 X))),I0] rfl ⟨rfl,rfl,trivial⟩ ?_))))
     have ht:(((([45])++((aP n Q).take 1))++([101]))++(aX 10 X):List Nat)=eF x n:=by unfold eF pE;rw [if_neg hx00,if_pos hx0,←hM,←hX,←hQ];rw [if_neg (show¬1<n by omega)];simp only [List.append_assoc,mP]
     exact⟨_,rfl,⟨_,_,rfl,(show Value.string _=Value.string _ from congrArg (fun l=>Value.string (a7 l)) ht),rfl⟩,hw4⟩
   · 
    refine a8 (lo cD hbx [.bool sa,.slice Aa na ca] rfl rfl rfl (cl (vs:= [.agg #[.bool sa,.slice Aa na ca]]) hw1 (nD (hx.ext hw1) (cC la rfl)) rfl (by kernel_rfl) fun xr85 v83 r85 e84 hw2=>?_))
    obtain rfl:=r85
    refine aB rfl rfl rfl false (FO (by omega)) (a0 (aH rfl (aN (aE (aA ?_)))))
    have hT17:True:=trivial
    refine a8 (mv 2 rfl ?_)
    have rb86:Rb 256 v83 (some ⟨g9,0,none⟩:Option aC) n n (aP n Q):=yN (hb.ext e84) (cV _ _) sW
    refine kZ rfl rfl fJ fA (lo:=0) (hi:=1) rfl rfl (by omega) (by have:=rb86.rv.le;omega) (v:= .slice (some ⟨g9,0,none⟩:Option aC) 1 n) (tW _ _ _) (by decide) (vV (bs:=(aP n Q).take 1) rfl rfl ((rb86.take (k:=1) (by omega))).rv (bO rfl rfl rfl (r:= .string (a7 (([])++((aP n Q).take 1)))) rfl (fun w=>cX (a:= []) (b:=(aP n Q).take 1) (by have:=hT17;simp only [bK,List.length_nil,cV];omega)) (mv 1 rfl (a0 (aA (aA ?_))))))
    by_cases hn2:n>1
    · 
     refine a8 (mv 1 rfl (aB rfl rfl rfl true (dC (a:=n) (b:=1) rfl rfl) (a0 (aM rfl (a8 (mv 2 rfl ?_))))))
     have rb87:Rb 256 v83 (some ⟨g9,0,none⟩:Option aC) n n (aP n Q):=yN (hb.ext e84) (cV _ _) sW
     refine kZ rfl rfl fJ fA (lo:=1) (hi:=n) rfl rfl (by omega) (by have:=rb87.rv.le;omega) (v:= .slice (if n=1 then (some ⟨g9,0,none⟩:Option aC) else (some ⟨g9,0,none⟩:Option aC).map (·.add (1*1))) (n-1) (n-1)) (tX _ _ _ _) (by decide) (vV (bs:=(aP n Q).drop 1) rfl rfl ((rb87.drop (k:=1) (by omega))).rv (bO rfl rfl rfl (r:= .string (a7 (([46])++((aP n Q).drop 1)))) rfl (fun w=>cX (a:= [46]) (b:=(aP n Q).drop 1) (by have:=hT17;simp only [cO,cJ,List.length_nil,cV];omega)) (bO rfl rfl rfl (r:= .string (a7 ((([])++((aP n Q).take 1))++(([46])++((aP n Q).drop 1))))) rfl (fun w=>cX (a:=([])++((aP n Q).take 1)) (b:=([46])++((aP n Q).drop 1)) (by have:=hT17;simp only [cR,bK,cO,cJ,List.length_nil,cV];omega)) (mv 1 rfl (a0 (aA ?_))))))
     have hT17:(aX 10 X).length≤65:=pB (b:=10) (n:=1) (oG)
     refine a8 (mv 1 rfl (bO rfl rfl rfl (r:= .string (a7 (((([])++((aP n Q).take 1))++(([46])++((aP n Q).drop 1)))++([101])))) rfl (fun w=>cX (a:=(([])++((aP n Q).take 1))++(([46])++((aP n Q).drop 1))) (b:= [101]) (by have:=hT17;simp only [cR,bK,cO,cJ,List.length_nil,cV];omega)) (mv 1 rfl (cl (vs:= [.int .i64 X]) hw2 (xO hw2.size (by omega) (by omega)) rfl (by kernel_rfl) fun xr90 v88 r90 e89 hw3=>?_))))
     obtain⟨s91,A91,n91,c91,rfl,z91⟩:=r90
     refine cl (vs:= [.agg #[.bool s91,.slice A91 n91 c91]]) hw3 (xN z91.zi (z91.le (aK (show ln ((X:Nat):Int)≤1 by rw [pS];exact oG) (by decide))) (hS.ext hw3)) rfl (by kernel_rfl) fun xr94 v92 r94 e93 hw4=>?_
     obtain rfl:=r94
     refine bO rfl rfl rfl (r:= .string (a7 ((((([])++((aP n Q).take 1))++(([46])++((aP n Q).drop 1)))++([101]))++(aX 10 X)))) rfl (fun w=>cX (a:=((([])++((aP n Q).take 1))++(([46])++((aP n Q).drop 1)))++([101])) (b:=aX 10 X) (by have:=hT17;simp only [cR,bK,cO,cJ,List.length_nil,cV];omega)) (mv 2 rfl (a0 (aJ (aI [.string (a7 ((((([])++((aP n Q).take 1))++(([46])++((aP n Q).drop 1)))++([101]))++(aX 10 X))),I0] rfl ⟨rfl,rfl,trivial⟩ ?_))))
     have ht:((((([])++((aP n Q).take 1))++(([46])++((aP n Q).drop 1)))++([101]))++(aX 10 X):List Nat)=eF x n:=by unfold eF pE;rw [if_neg hx00,if_neg hx0,←hM,←hX,←hQ];rw [if_pos (show 1<n by omega)];simp only [List.append_assoc,List.nil_append]
     exact⟨_,rfl,⟨_,_,rfl,(show Value.string _=Value.string _ from congrArg (fun l=>Value.string (a7 l)) ht),rfl⟩,hw4⟩
    · 
     refine a8 (mv 1 rfl (aB rfl rfl rfl false (cW (a:=n) (b:=1) rfl rfl) (a0 (aH rfl (aN (aE (aA ?_)))))))
     have hT17:(aX 10 X).length≤65:=pB (b:=10) (n:=1) (oG)
     refine a8 (mv 1 rfl (bO rfl rfl rfl (r:= .string (a7 ((([])++((aP n Q).take 1))++([101])))) rfl (fun w=>cX (a:=([])++((aP n Q).take 1)) (b:= [101]) (by have:=hT17;simp only [cR,bK,cJ,List.length_nil,cV];omega)) (mv 1 rfl (cl (vs:= [.int .i64 X]) hw2 (xO hw2.size (by omega) (by omega)) rfl (by kernel_rfl) fun xr97 v95 r97 e96 hw3=>?_))))
     obtain⟨s98,A98,n98,c98,rfl,z98⟩:=r97
     refine cl (vs:= [.agg #[.bool s98,.slice A98 n98 c98]]) hw3 (xN z98.zi (z98.le (aK (show ln ((X:Nat):Int)≤1 by rw [pS];exact oG) (by decide))) (hS.ext hw3)) rfl (by kernel_rfl) fun xr101 v99 r101 e100 hw4=>?_
     obtain rfl:=r101
     refine bO rfl rfl rfl (r:= .string (a7 (((([])++((aP n Q).take 1))++([101]))++(aX 10 X)))) rfl (fun w=>cX (a:=(([])++((aP n Q).take 1))++([101])) (b:=aX 10 X) (by have:=hT17;simp only [cR,bK,cJ,List.length_nil,cV];omega)) (mv 2 rfl (a0 (aJ (aI [.string (a7 (((([])++((aP n Q).take 1))++([101]))++(aX 10 X))),I0] rfl ⟨rfl,rfl,trivial⟩ ?_))))
     have ht:(((([])++((aP n Q).take 1))++([101]))++(aX 10 X):List Nat)=eF x n:=by unfold eF pE;rw [if_neg hx00,if_neg hx0,←hM,←hX,←hQ];rw [if_neg (show¬1<n by omega)];simp only [List.append_assoc,List.nil_append,mP]
     exact⟨_,rfl,⟨_,_,rfl,(show Value.string _=Value.string _ from congrArg (fun l=>Value.string (a7 l)) ht),rfl⟩,hw4⟩
theorem CK:∀{i:Nat},53::bP i 48=aP (i+1) (5*10^i)
 | 0=>rfl
 | i+1=>by
  rw [List.replicate_succ',←iN,CK (i:=i)]
  conv=>rhs;rw [aP]
  have e:5*10^(i+1)=5*10^i*10:=by rw [bS,bC]
  rw [e,nP _ (by decide),Nat.mul_mod_left]
theorem GC (hj:0<j):(!(lK (aP j m) (aP j (5*10^(j-1)))||decide (aP j m=aP j (5*10^(j-1)))))=decide (10^j<2*(m%10^j)):=by
 obtain⟨i,rfl⟩:∃i,j=i+1:=⟨j-1,by omega⟩
 rw [jZ,←CJ (v:=m)]
 have hp:10^(i+1)=10*10^i:=by rw [bS,bR]
 have h10:=jG i
 have h1:=eL m (jG (i+1))
 have h2:5*10^i<10^(i+1):=by omega
 rw [IZ h1 h2]
 have e:(aP (i+1) (m%10^(i+1))=aP (i+1) (5*10^i))↔m%10^(i+1)=5*10^i:=⟨fun h=>yC h1 h2 h,fun h=>by rw [h]⟩
 simp only [e]
 rw [Bool.eq_iff_iff]
 simp only [Bool.not_eq_true',Bool.or_eq_false_iff,decide_eq_true_eq,decide_eq_false_iff_not]
 omega
theorem GD (hj:0<j):(aP j m=aP j (5*10^(j-1)))↔10^j=2*(m%10^j):=by
 obtain⟨i,rfl⟩:∃i,j=i+1:=⟨j-1,by omega⟩
 rw [jZ,←CJ (v:=m)]
 have hp:10^(i+1)=10*10^i:=by rw [bS,bR]
 have h10:=jG i
 have h1:=eL m (jG (i+1))
 have h2:5*10^i<10^(i+1):=by omega
 exact⟨fun h=>by have:=yC h1 h2 h;omega,fun h=>by rw [show m%10^(i+1)=5*10^i by omega]⟩
theorem sS:∀{k a v:Nat},(aP (a+k) v).take a=aP a (v/10^k)
 | 0,a,v=>by rw [dH,Nat.pow_zero,Nat.div_one,List.take_of_length_le (by rw [cV];exact aZ _)]
 | k+1,a,v=>by
  rw [show a+(k+1)=(a+k)+1 by omega,aP,List.take_append_of_le_length (by rw [cV];omega),sS,Nat.div_div_eq_div_mul,bS,bR 10]
theorem KM:∀{k a v:Nat},aP a v++bP k 48=aP (a+k) (v*10^k)
 | 0,a,v=>by rw [List.replicate_zero,mP,Nat.pow_zero,cQ,dH]
 | k+1,a,v=>by
  rw [List.replicate_succ',←List.append_assoc,KM (k:=k),show a+(k+1)=(a+k)+1 by omega]
  conv=>rhs;rw [aP]
  have e:v*10^(k+1)=v*10^k*10:=by rw [bS,bC]
  rw [e,nP _ (by decide),Nat.mul_mod_left]
theorem iZ {w:a6}(hs:s=aX 10 m)(hx:Wi w A an ac m)(hal:an≤1048576:=by omega):aL aF 191 #[.slice A an ac] w (Gv w (Is (.string (a7 s)))):=by subst hs;exact GE hx hal
theorem S3 {w:a6}(ht:t=aX 10 (v+1))(hn:n≤40)(hn1:1≤n)(hv:v<10^n):aL aF 219 #[.string (a7 (aP n v))] w (Gv w (Is (.string (a7 t)))):=by
 subst ht
 have hd:Digs (aP n v):=fun c hc=>kB hc
 refine S4 (fun c hc=>by have:=hd c hc;omega) (by rw [cV];omega) (hd.good fun e=>by have:=congrArg List.length e;rw [cV] at this;simp at this;omega) (KK hv) ?_
 refine aK (gN (Nat.le_of_lt hv)) (aK (jS (n:=n)) (by omega))
theorem FQ (he:dL m=k+1):(k+1<n→(aP (k+1) m++bP (n-(k+1)) 48)=aP n (dI m n))∧(¬k+1<n→(aP (k+1) m).take n=aP n (dI m n)):=by
 unfold dI
 rw [he]
 constructor
 ·intro h
  rw [if_pos (by omega),KM,show k+1+(n-(k+1))=n by omega]
 ·intro h
  have e:k+1=n+(k+1-n):=by omega
  by_cases h1:k+1≤n
  ·rw [if_pos h1,show n-(k+1)=0 by omega,Nat.pow_zero,cQ,show k+1=n by omega,List.take_of_length_le (by rw [cV];exact aZ _)]
  ·rw [if_neg h1]
   conv=>lhs;rw [e]
   rw [sS]
theorem PU (h:¬k+1<n):(aP (k+1) m).drop n=aP (k+1-n) m:=by
 have e:k+1=n+(k+1-n):=by omega
 conv=>lhs;rw [e]
 rw [CL]
theorem FT (he:dL m=k+1)(h:n<k+1)(hn:1≤n):(aP n (dI m n)).getD (n-1) 0%2=m/10^(k+1-n)%2:=by
 rw [lN (by omega)]
 unfold dI
 rw [he,if_neg (by omega),show n-1-(n-1)=0 by omega,Nat.pow_zero,Nat.div_one]
 omega
theorem wN (_hn:1≤n):pE q n=if 1<n then ((aP n q).take 1++ [46])++(aP n q).drop 1 else (aP n q).take 1:=by
 unfold pE
 split
 ·rw [List.append_assoc]
 ·rw [mP]
theorem rZ (h0:0<m)(hn:1≤n)(h:¬(n<dL m∧gA m (dL m-n))):aP n (dI m n)=if fZ m n=10^n then aP (n+1) (10^n) else aP n (fZ m n):=by
 have hv:=m5 h0 hn
 have e:fZ m n=dI m n:=by unfold fZ;rw [if_neg h]
 rw [e,if_neg (by omega)]
theorem wO (h0:0<m)(hn:1≤n)(h:n<dL m∧gA m (dL m-n)):aX 10 (dI m n+1)=if fZ m n=10^n then aP (n+1) (10^n) else aP n (fZ m n):=by
 have hv:=m5 h0 hn
 have e:fZ m n=dI m n+1:=by unfold fZ;rw [if_pos h]
 rw [e]
 by_cases h1:dI m n+1=10^n
 ·rw [if_pos h1,h1]
  exact tR (jG n) (aZ _) (Nat.pow_lt_pow_right (by decide) (by omega))
 ·rw [if_neg h1]
  obtain⟨j,rfl⟩:∃j,n=j+1:=⟨n-1,by omega⟩
  rw [jZ] at hv
  exact tR (by omega) (by omega) (by omega)
theorem x9 {w:a6}(hs:s=aP n v)(ht:t=aX 10 (v+1))(hn:n≤40)(hn1:1≤n)(hv:v<10^n):aL aF 219 #[.string (a7 s)] w (Gv w (Is (.string (a7 t)))):=by subst hs;exact S3 ht hn hn1 hv
theorem wE (hn:1≤n):10^n/10^1=10^(n-1):=by
 obtain⟨j,rfl⟩:∃j,n=j+1:=⟨n-1,by omega⟩
 rw [jZ,bS,Nat.pow_one,nP _ (by decide)]
theorem jQ (X:Nat)(h:X≤67108866):(aX 10 X).length≤100:=by
 have h1:ln ((X:Nat):Int)≤1:=by rw [pS];exact fS (by rw [cF,Nat.pow_one];omega)
 have h2:=pB (b:=10) (n:=1) (m:=X) (by rw [pS] at h1;exact h1)
 omega
set_option maxHeartbeats 8000000 in
theorem SP {w:a6}(hx:Zi w s0 A na ca x)(la:na≤1048576)(hx00:x≠0)(hn1:1≤n)(hn40:n≤40):
    aL aF 174 #[.agg #[.bool s0,.slice A na ca],.int .i64 n] w (Gv w (T2 (Is (.string (a7 (eF x n)))) (Is (.int .i64 0)))):=by
 have Lx:ln x≤1048576:=aK hx.ln la
 have hM:0<(Int.natAbs x):=by omega
 obtain⟨k,hdL,hk1,hk2,hkt⟩:=CR hM
 have hkl:k+1≤67108865:=by have h:=pB (b:=10) (n:=1048576) Lx;rw [hkt,cV] at h;exact h
 obtain⟨s,hs⟩:∃s,s=aP (k+1) (Int.natAbs x):=⟨_,rfl⟩
 have hsl:s.length=k+1:=by rw [hs,cV]
 have hs48:s≠ [48]:=by rw [hs,←hkt];exact EU hM
 have hs256:∀c,c∈s→c<256:=fun c hc=>by rw [hs] at hc;have:=kB hc;omega
 refine bL Tryz.func174 rfl (n:=103) rfl (bq rfl) (args:= [.agg #[.bool s0,.slice A na ca],.int .i64 n]) (bB [(0,.agg #[.bool s0,.slice A na ca]),(1,.int .i64 n)] ⟨rfl,rfl,trivial⟩ (sr (bx [.bool s0,.slice A na ca] (Ext.refl w) rfl rfl rfl fun g1 v2 hb4 ge5 e3 hw1=>(mv 2 rfl (a0 (aA (sr (mv 1 rfl (aB rfl rfl rfl false (dP (a:=n) (b:=1) rfl rfl) (mv 2 rfl (aB rfl rfl rfl false (cW (a:=n) (b:=40) rfl rfl) (pu (v:= .bool false) rfl (aR ?_)))))))))))))
 refine aE (aH rfl (aN (aE (sr (pf g1 1 rfl (aQ rfl rfl (bE eW hb4 rfl) (cl (vs:= [.slice A na ca]) hw1 (iZ (s:=s) (by rw [hs,hkt]) (hx.ext hw1).wi (hal:=(cC la rfl))) rfl (by kernel_rfl) fun xr8 v6 r8 e7 hw2=>?_)))))))
 obtain rfl:=r8
 refine mv 1 rfl (a0 (aA (sr (mv 1 rfl (fP (a:=s) (b:= [48]) rfl rfl rfl hs256 false (pC (hs48)) (a0 (aH rfl (aN (aE (sr (mv 1 rfl (bA rfl rfl (v:= .int .i64 (((a7 s).size:Nat):Int)) (v':= .int .i64 ((s.length:Nat):Int)) (by rw [cI]) (aD rfl rfl rfl ((s.length-1:Nat):Int) (eT (a:=s.length) (b:=1) rfl rfl) ?_)))))))))))))
 refine mv 1 rfl (a0 (aA (aA ?_)))
 by_cases hpad:s.length<n
 · 
  refine a8 (mv 1 rfl (bA rfl rfl (v:= .int .i64 (((a7 s).size:Nat):Int)) (v':= .int .i64 ((s.length:Nat):Int)) (by rw [cI]) (mv 1 rfl (aB rfl rfl rfl true (dV (a:=s.length) (b:=n) rfl rfl) (a0 (aM rfl (a8 (mv 3 rfl (bA rfl rfl (v:= .int .i64 (((a7 s).size:Nat):Int)) (v':= .int .i64 ((s.length:Nat):Int)) (by rw [cI]) (aD rfl rfl rfl ((n-s.length:Nat):Int) (eT (a:=n) (b:=s.length) rfl rfl) (cl (vs:= [.int .i64 ((n-s.length:Nat):Int)]) hw2 (BB (n:=n-s.length)) rfl (by kernel_rfl) fun xr11 v9 r11 e10 hw3=>?_)))))))))))
  obtain rfl:=r11
  refine bO rfl rfl rfl (r:= .string (a7 (s++(bP (n-s.length) 48)))) rfl (fun w=>cX (a:=s) (b:=bP (n-s.length) 48) (by simp only [List.length_replicate];omega)) (mv 1 rfl (a0 (aA ?_)))
  have hcl:(s++(bP (n-s.length) 48)).length=n:=by simp only [cR,List.length_replicate];omega
  refine a8 (mv 2 rfl (lW (bs:=s++(bP (n-s.length) 48)) (i:=n) rfl rfl rfl Tryz.underlying9 (mv 1 rfl (a0 (gR (T:=a6×Nat×List Nat×List Nat) (fun⟨wr,x0,s2,r⟩=> [(1,.int .i64 n),(2,.pointer (some ⟨g1,0,none⟩)),(6,.string (a7 s2)),(7,.int .i64 x0),(8,.string (a7 r))]) (fun⟨wr,x0,s2,r⟩=>wr) (fun⟨wr,x0,s2,r⟩=>(Ext w wr)∧(Bk wr g1 24 [.bool s0,.slice A na ca])∧(x0=k)∧(s2=aP n (dI (Int.natAbs x) n))∧(r=aP (k+1-n) (Int.natAbs x))) ?_ ?_)))))
  · 
   refine a8 (mv 2 rfl (kY (bs:=s++(bP (n-s.length) 48)) (i:=n) rfl rfl rfl Tryz.underlying9 (mv 1 rfl (aR (d5 (⟨v9,s.length-1,(s++(bP (n-s.length) 48)).take n,(s++(bP (n-s.length) 48)).drop n⟩:a6×Nat×List Nat×List Nat) ⟨hw3,(hb4.ext (e7.trans e10)),(by omega),(by rw [List.take_of_length_le (by simp only [cR,List.length_replicate];omega),hsl,hs];exact (FQ hdL).1 (by omega)),(by rw [List.drop_of_length_le (by simp only [cR,List.length_replicate];omega),show k+1-n=0 by omega];rfl)⟩ rfl ⟨rfl,rfl,rfl,rfl,rfl,trivial⟩)))))
  · 
   rintro⟨wr,x0,s2,r⟩ ⟨hw1,b_2,hx0,hs2,hr⟩
   refine cM [(1,.int .i64 n),(2,.pointer (some ⟨g1,0,none⟩)),(6,.string (a7 s2)),(7,.int .i64 x0),(8,.string (a7 r))] wr rfl ⟨rfl,rfl,rfl,rfl,rfl,trivial⟩ (sr (mv 1 rfl (a0 (aA (aA ?_)))))
   have hrl:r.length=k+1-n:=by rw [hr,cV]
   have hr256:∀c,c∈r→c<256:=fun c hc=>by rw [hr] at hc;have:=kB hc;omega
   by_cases hlong:r.length>0
   · 
    refine a8 (mv 1 rfl (bA rfl rfl (v:= .int .i64 (((a7 r).size:Nat):Int)) (v':= .int .i64 ((r.length:Nat):Int)) (by rw [cI]) (aB rfl rfl rfl true (dC (a:=r.length) (b:=0) rfl rfl) (a0 (aM rfl (a8 (mv 2 rfl (bA rfl rfl (v:= .int .i64 (((a7 r).size:Nat):Int)) (v':= .int .i64 ((r.length:Nat):Int)) (by rw [cI]) (aD rfl rfl rfl ((r.length-1:Nat):Int) (eT (a:=r.length) (b:=1) rfl rfl) (cl (vs:= [.int .i64 ((r.length-1:Nat):Int)]) hw1 (BB (n:=r.length-1)) rfl (by kernel_rfl) fun xr14 v12 r14 e13 hw2=>?_))))))))))
    obtain rfl:=r14
    refine bO rfl rfl rfl (r:= .string (a7 (([53])++(bP (r.length-1) 48)))) rfl (fun w=>cX (a:= [53]) (b:=bP (r.length-1) 48) (by simp only [List.length_replicate,cJ,List.length_nil];omega)) (mv 1 rfl (a0 (gR (T:=a6×List Nat) (fun⟨wr,s3⟩=> [(1,.int .i64 n),(2,.pointer (some ⟨g1,0,none⟩)),(6,.string (a7 s3)),(7,.int .i64 x0)]) (fun⟨wr,s3⟩=>wr) (fun⟨wr,s3⟩=>(Ext w wr)∧(Bk wr g1 24 [.bool s0,.slice A na ca])∧(s3=if fZ (Int.natAbs x) n=10^n then aP (n+1) (10^n) else aP n (fZ (Int.natAbs x) n))) ?_ ?_)))
    · 
     refine aA ?_
     have hmid: [53]++bP (r.length-1) 48=aP (k+1-n) (5*10^(k+1-n-1)):=by rw [hrl];exact CK.trans (by rw [show k+1-n-1+1=k+1-n by omega])
     have hm256:∀c,c∈ [53]++bP (r.length-1) 48→c<256:=fun c hc=>by rw [hmid] at hc;have:=kB hc;omega
     have hgt:=GC (m:=(Int.natAbs x)) (j:=k+1-n) (by omega)
     have heq:=GD (m:=(Int.natAbs x)) (j:=k+1-n) (by omega)
     rw [←hmid,←hr] at hgt heq
     have hodd:=FT (m:=(Int.natAbs x)) hdL (by omega) hn1
     rw [←hs2] at hodd
     have hs2l:s2.length=n:=by rw [hs2,cV]
     have hc255:s2.getD (n-1) 0<256:=by rw [hs2];have:=kB (iS (l:=aP n (dI (Int.natAbs x) n)) (i:=n-1) (by rw [cV];omega));omega
     have hs2b:∀c,c∈s2→c<256:=fun c hc=>by rw [hs2] at hc;have:=kB hc;omega
     by_cases hg:10^(k+1-n)<2*((Int.natAbs x)%10^(k+1-n))
     · 
      have hup:n<dL (Int.natAbs x)∧gA (Int.natAbs x) (dL (Int.natAbs x)-n):=⟨by omega,by rw [hdL];exact cH hg⟩
      refine a8 (mv 1 rfl (bA rfl rfl (v:= .int .i64 (((a7 r).size:Nat):Int)) (v':= .int .i64 ((r.length:Nat):Int)) (by rw [cI]) (aB rfl rfl rfl true (dC (a:=r.length) (b:=0) rfl rfl) (mv 3 rfl (oZ rfl rfl rfl hr256 hm256 true (hgt.trans (decide_eq_true hg)) (mv 12 rfl (pu (v:= .bool true) rfl (pu (v:= .bool true) rfl (a0 (aM rfl (a8 (mv 1 rfl (cl (vs:= [.string (a7 s2)]) hw2 (x9 hs2 rfl hn40 hn1 (m5 hM hn1).1) rfl (by kernel_rfl) fun xr17 v15 r17 e16 hw3=>?_)))))))))))))
      obtain rfl:=r17
      refine mv 1 rfl (aR (d5 (⟨v15,aX 10 (dI (Int.natAbs x) n+1)⟩:a6×List Nat) ⟨hw3,(b_2.ext (e13.trans e16)),(wO hM hn1 hup)⟩ rfl ⟨rfl,rfl,rfl,rfl,trivial⟩))
     · 
      by_cases hq:10^(k+1-n)=2*((Int.natAbs x)%10^(k+1-n))
      · 
       by_cases hod:s2.getD (n-1) 0%2=1
       · 
        have hup:n<dL (Int.natAbs x)∧gA (Int.natAbs x) (dL (Int.natAbs x)-n):=⟨by omega,by rw [hdL];exact bV ⟨hq,by omega⟩⟩
        refine a8 (mv 1 rfl (bA rfl rfl (v:= .int .i64 (((a7 r).size:Nat):Int)) (v':= .int .i64 ((r.length:Nat):Int)) (by rw [cI]) (aB rfl rfl rfl true (dC (a:=r.length) (b:=0) rfl rfl) (mv 3 rfl (oZ rfl rfl rfl hr256 hm256 false (hgt.trans (decide_eq_false hg)) (mv 3 rfl (fP (a:=r) (b:=([53])++(bP (r.length-1) 48)) rfl rfl rfl hr256 true (mY (heq.2 hq)) (mv 3 rfl (aD rfl rfl rfl ((n-1:Nat):Int) (eT (a:=n) (b:=1) rfl rfl) (dD (bs:=s2) (i:=n-1) rfl rfl rfl Tryz.underlying9 hs2b (aD rfl rfl rfl (((s2.getD (n-1) 0)%2:Nat):Int) (f7 (a:=s2.getD (n-1) 0) (b:=2) rfl rfl (h:=(by decide))) (aB rfl rfl rfl true (cZ (a:=(s2.getD (n-1) 0)%2) (b:=1) rfl rfl) (pu (v:= .bool true) rfl ?_)))))) (hb:=hm256))))))))
        refine pu (v:= .bool true) rfl (pu (v:= .bool true) rfl (a0 (aM rfl (a8 (mv 1 rfl (cl (vs:= [.string (a7 s2)]) hw2 (x9 hs2 rfl hn40 hn1 (m5 hM hn1).1) rfl (by kernel_rfl) fun xr20 v18 r20 e19 hw3=>?_))))))
        obtain rfl:=r20
        refine mv 1 rfl (aR (d5 (⟨v18,aX 10 (dI (Int.natAbs x) n+1)⟩:a6×List Nat) ⟨hw3,(b_2.ext (e13.trans e19)),(wO hM hn1 hup)⟩ rfl ⟨rfl,rfl,rfl,rfl,trivial⟩))
       · 
        have hup:¬(n<dL (Int.natAbs x)∧gA (Int.natAbs x) (dL (Int.natAbs x)-n)):=fun h=>by have h2:=h.2;rw [hdL] at h2;unfold gA at h2;omega
        refine a8 (mv 1 rfl (bA rfl rfl (v:= .int .i64 (((a7 r).size:Nat):Int)) (v':= .int .i64 ((r.length:Nat):Int)) (by rw [cI]) (aB rfl rfl rfl true (dC (a:=r.length) (b:=0) rfl rfl) (mv 3 rfl (oZ rfl rfl rfl hr256 hm256 false (hgt.trans (decide_eq_false hg)) (mv 3 rfl (fP (a:=r) (b:=([53])++(bP (r.length-1) 48)) rfl rfl rfl hr256 true (mY (heq.2 hq)) (mv 3 rfl (aD rfl rfl rfl ((n-1:Nat):Int) (eT (a:=n) (b:=1) rfl rfl) (dD (bs:=s2) (i:=n-1) rfl rfl rfl Tryz.underlying9 hs2b (aD rfl rfl rfl (((s2.getD (n-1) 0)%2:Nat):Int) (f7 (a:=s2.getD (n-1) 0) (b:=2) rfl rfl (h:=(by decide))) (aB rfl rfl rfl false (d4 (a:=(s2.getD (n-1) 0)%2) (b:=1) rfl rfl) (pu (v:= .bool false) rfl ?_)))))) (hb:=hm256))))))))
        refine pu (v:= .bool false) rfl (pu (v:= .bool false) rfl (a0 (aH rfl (aN (d5 (⟨v12,s2⟩:a6×List Nat) ⟨hw2,(b_2.ext e13),(hs2.trans (rZ hM hn1 hup))⟩ rfl ⟨rfl,rfl,rfl,rfl,trivial⟩)))))
      · 
       have hup:¬(n<dL (Int.natAbs x)∧gA (Int.natAbs x) (dL (Int.natAbs x)-n)):=fun h=>by have h2:=h.2;rw [hdL] at h2;unfold gA at h2;omega
       refine a8 (mv 1 rfl (bA rfl rfl (v:= .int .i64 (((a7 r).size:Nat):Int)) (v':= .int .i64 ((r.length:Nat):Int)) (by rw [cI]) (aB rfl rfl rfl true (dC (a:=r.length) (b:=0) rfl rfl) (mv 3 rfl (oZ rfl rfl rfl hr256 hm256 false (hgt.trans (decide_eq_false hg)) (mv 3 rfl (fP (a:=r) (b:=([53])++(bP (r.length-1) 48)) rfl rfl rfl hr256 false (pC (fun h=>hq (heq.1 h))) (mv 7 rfl (pu (v:= .bool false) rfl (pu (v:= .bool false) rfl (pu (v:= .bool false) rfl (a0 (aH rfl ?_)))))) (hb:=hm256))))))))
       refine aN (d5 (⟨v12,s2⟩:a6×List Nat) ⟨hw2,(b_2.ext e13),(hs2.trans (rZ hM hn1 hup))⟩ rfl ⟨rfl,rfl,rfl,rfl,trivial⟩)
    · 
     rintro⟨wr,s3⟩ ⟨hw1,b_2,hs3⟩
     refine cM [(1,.int .i64 n),(2,.pointer (some ⟨g1,0,none⟩)),(6,.string (a7 s3)),(7,.int .i64 x0)] wr rfl ⟨rfl,rfl,rfl,rfl,trivial⟩ (gR (T:=a6×List Nat×Nat) (fun⟨wr,s4,X0⟩=> [(1,.int .i64 n),(2,.pointer (some ⟨g1,0,none⟩)),(6,.string (a7 s4)),(7,.int .i64 X0)]) (fun⟨wr,s4,X0⟩=>wr) (fun⟨wr,s4,X0⟩=>(Ext w wr)∧(Bk wr g1 24 [.bool s0,.slice A na ca])∧(s4=aP n (fR (Int.natAbs x) n))∧(X0=gH (Int.natAbs x) n)) ?_ ?_)
     · 
      refine aA ?_
      by_cases hov:fZ (Int.natAbs x) n=10^n
      · 
       rw [if_pos hov] at hs3
       have hs3l:s3.length=n+1:=by rw [hs3,cV]
       refine a8 (mv 1 rfl (bA rfl rfl (v:= .int .i64 (((a7 s3).size:Nat):Int)) (v':= .int .i64 ((s3.length:Nat):Int)) (by rw [cI]) (mv 1 rfl (aB rfl rfl rfl true (dC (a:=s3.length) (b:=n) rfl rfl) (a0 (aM rfl (sr (mv 2 rfl (kY (bs:=s3) (i:=n) rfl rfl rfl Tryz.underlying9 (mv 1 rfl (a0 (a8 (mv 1 rfl ?_)))))))))))))
       refine aD rfl rfl rfl ((x0+1:Nat):Int) (bF (a:=x0) (b:=1) rfl rfl) (mv 1 rfl (aR (d5 (⟨wr,s3.take n,x0+1⟩:a6×List Nat×Nat) ⟨hw1,b_2,(by rw [hs3,sS (k:=1)];unfold fR;rw [if_pos hov];congr 1;exact wE hn1),(by unfold gH;rw [if_pos hov,hdL,hx0])⟩ rfl ⟨rfl,rfl,rfl,rfl,trivial⟩)))
      · 
       rw [if_neg hov] at hs3
       have hs3l:s3.length=n:=by rw [hs3,cV]
       refine a8 (mv 1 rfl (bA rfl rfl (v:= .int .i64 (((a7 s3).size:Nat):Int)) (v':= .int .i64 ((s3.length:Nat):Int)) (by rw [cI]) (mv 1 rfl (aB rfl rfl rfl false (cW (a:=s3.length) (b:=n) rfl rfl) (a0 (aH rfl (aN (d5 (⟨wr,s3,x0⟩:a6×List Nat×Nat) ⟨hw1,b_2,(by rw [hs3];unfold fR;rw [if_neg hov]),(by unfold gH;rw [if_neg hov,hdL,hx0];omega)⟩ rfl ⟨rfl,rfl,rfl,rfl,trivial⟩))))))))
     · 
      rintro⟨wr,s4,X0⟩ ⟨hw1,b_2,hs4,hX0⟩
      refine cM [(1,.int .i64 n),(2,.pointer (some ⟨g1,0,none⟩)),(6,.string (a7 s4)),(7,.int .i64 X0)] wr rfl ⟨rfl,rfl,rfl,rfl,trivial⟩ (aA ?_)
      have hs4l:s4.length=n:=by rw [hs4,cV]
      have hX0b:X0≤67108866:=by rw [hX0];unfold gH;split <;> omega
      have hst:=wN (q:=fR (Int.natAbs x) n) hn1
      rw [←hs4] at hst
      refine a8 (mv 1 rfl (kY (bs:=s4) (i:=1) rfl rfl rfl Tryz.underlying9 (mv 1 rfl (a0 (aA (aA ?_))))))
      by_cases hn2:n>1
      · 
       refine a8 (mv 1 rfl (aB rfl rfl rfl true (dC (a:=n) (b:=1) rfl rfl) (a0 (aM rfl (a8 (mv 1 rfl (bO rfl rfl rfl (r:= .string (a7 ((s4.take 1)++([46])))) rfl (fun w=>cX (a:=s4.take 1) (b:= [46]) (by simp only [cJ,List.length_nil,bK];omega)) (mv 1 rfl (lW (bs:=s4) (i:=1) rfl rfl rfl Tryz.underlying9 (bO rfl rfl rfl (r:= .string (a7 (((s4.take 1)++([46]))++(s4.drop 1)))) rfl (fun w=>cX (a:=(s4.take 1)++([46])) (b:=s4.drop 1) (by simp only [cR,cJ,List.length_nil,bK,cO];omega)) (mv 1 rfl (a0 (aA ?_)))))))))))))
       refine aA ?_
       have hsa:=mR hx hx00
       cases s0
       · 
        refine a8 (pf g1 0 rfl (aQ rfl rfl (bE eG b_2 rfl) (a0 (aH rfl (aN (aE (sr (mv 1 rfl (bO rfl rfl rfl (r:= .string (a7 ((((s4.take 1)++([46]))++(s4.drop 1))++([101])))) rfl (fun w=>cX (a:=((s4.take 1)++([46]))++(s4.drop 1)) (b:= [101]) (by simp only [cR,cJ,List.length_nil,bK,cO];omega)) (mv 1 rfl (bA rfl rfl (v:= .int .u64 (IntKind.u64.wrap ((X0:Nat):Int))) (v':= .int .u64 X0) (eH (by first | omega | exact hle64)) (dN rfl rfl (k:=1) (e:=65) [.int .u64 X0] (fun _=>by kernel_rfl) fun g21 v22 nb23=>?_))))))))))))
        have o24:=O1.mk_ (x:=X0) (b:=w.heap.size) nb23 hw1.size
        have e25:=nb23.ext
        have hw2:=hw1.trans e25
        refine cl (vs:= [.slice (some ⟨g21,0,none⟩) 1 1]) hw2 (iZ rfl (gF o24 (show X0≤18446744073709551615 by omega))) rfl (by kernel_rfl) fun xr30 v28 r30 e29 hw3=>?_
        obtain rfl:=r30
        refine bO rfl rfl rfl (r:= .string (a7 (((((s4.take 1)++([46]))++(s4.drop 1))++([101]))++(aX 10 X0)))) rfl (fun w=>cX (a:=(((s4.take 1)++([46]))++(s4.drop 1))++([101])) (b:=aX 10 X0) (by have htx:=jQ X0 hX0b;simp only [cR,cJ,List.length_nil,bK,cO];omega)) (mv 2 rfl (a0 (aJ (aI [.string (a7 (((((s4.take 1)++([46]))++(s4.drop 1))++([101]))++(aX 10 X0))),I0] rfl ⟨rfl,rfl,trivial⟩ ?_))))
        have hend:((((s4.take 1)++([46]))++(s4.drop 1))++([101]))++(aX 10 X0)=eF x n:=by unfold eF;rw [if_neg hx00,←hX0,hst,if_pos hn2,if_neg (of_decide_eq_false hsa.symm)];simp only [List.append_assoc,List.nil_append,iN]
        exact⟨_,rfl,⟨_,_,rfl,(show Value.string (a7 (((((s4.take 1)++([46]))++(s4.drop 1))++([101]))++(aX 10 X0)))=_ by rw [hend]),rfl⟩,hw3⟩
       · 
        refine a8 (pf g1 0 rfl (aQ rfl rfl (bE eG b_2 rfl) (a0 (aM rfl (a8 (mv 1 rfl (bO rfl rfl rfl (r:= .string (a7 (([45])++(((s4.take 1)++([46]))++(s4.drop 1))))) rfl (fun w=>cX (a:= [45]) (b:=((s4.take 1)++([46]))++(s4.drop 1)) (by simp only [cR,cJ,List.length_nil,bK,cO];omega)) (mv 1 rfl (a0 (sr (mv 1 rfl (bO rfl rfl rfl (r:= .string (a7 ((([45])++(((s4.take 1)++([46]))++(s4.drop 1)))++([101])))) rfl (fun w=>cX (a:=([45])++(((s4.take 1)++([46]))++(s4.drop 1))) (b:= [101]) (by simp only [cR,cJ,List.length_nil,bK,cO];omega)) (mv 1 rfl ?_)))))))))))))
        refine bA rfl rfl (v:= .int .u64 (IntKind.u64.wrap ((X0:Nat):Int))) (v':= .int .u64 X0) (eH (by first | omega | exact hle64)) (dN rfl rfl (k:=1) (e:=65) [.int .u64 X0] (fun _=>by kernel_rfl) fun g31 v32 nb33=>?_)
        have o34:=O1.mk_ (x:=X0) (b:=w.heap.size) nb33 hw1.size
        have e35:=nb33.ext
        have hw2:=hw1.trans e35
        refine cl (vs:= [.slice (some ⟨g31,0,none⟩) 1 1]) hw2 (iZ rfl (gF o34 (show X0≤18446744073709551615 by omega))) rfl (by kernel_rfl) fun xr40 v38 r40 e39 hw3=>?_
        obtain rfl:=r40
        refine bO rfl rfl rfl (r:= .string (a7 (((([45])++(((s4.take 1)++([46]))++(s4.drop 1)))++([101]))++(aX 10 X0)))) rfl (fun w=>cX (a:=(([45])++(((s4.take 1)++([46]))++(s4.drop 1)))++([101])) (b:=aX 10 X0) (by have htx:=jQ X0 hX0b;simp only [cR,cJ,List.length_nil,bK,cO];omega)) (mv 2 rfl (a0 (aJ (aI [.string (a7 (((([45])++(((s4.take 1)++([46]))++(s4.drop 1)))++([101]))++(aX 10 X0))),I0] rfl ⟨rfl,rfl,trivial⟩ ?_))))
        have hend:((([45])++(((s4.take 1)++([46]))++(s4.drop 1)))++([101]))++(aX 10 X0)=eF x n:=by unfold eF;rw [if_neg hx00,←hX0,hst,if_pos hn2,if_pos (of_decide_eq_true hsa.symm)];simp only [List.append_assoc,List.nil_append,iN]
        exact⟨_,rfl,⟨_,_,rfl,(show Value.string (a7 (((([45])++(((s4.take 1)++([46]))++(s4.drop 1)))++([101]))++(aX 10 X0)))=_ by rw [hend]),rfl⟩,hw3⟩
      · 
       refine a8 (mv 1 rfl (aB rfl rfl rfl false (cW (a:=n) (b:=1) rfl rfl) (a0 (aH rfl (aN (aE (aA (aA ?_))))))))
       have hsa:=mR hx hx00
       cases s0
       · 
        refine a8 (pf g1 0 rfl (aQ rfl rfl (bE eG b_2 rfl) (a0 (aH rfl (aN (aE (sr (mv 1 rfl (bO rfl rfl rfl (r:= .string (a7 ((s4.take 1)++([101])))) rfl (fun w=>cX (a:=s4.take 1) (b:= [101]) (by simp only [cJ,List.length_nil,bK];omega)) (mv 1 rfl (bA rfl rfl (v:= .int .u64 (IntKind.u64.wrap ((X0:Nat):Int))) (v':= .int .u64 X0) (eH (by first | omega | exact hle64)) (dN rfl rfl (k:=1) (e:=65) [.int .u64 X0] (fun _=>by kernel_rfl) fun g41 v42 nb43=>?_))))))))))))
        have o44:=O1.mk_ (x:=X0) (b:=w.heap.size) nb43 hw1.size
        have gW:=nb43.ext
        have hw2:=hw1.trans gW
        refine cl (vs:= [.slice (some ⟨g41,0,none⟩) 1 1]) hw2 (iZ rfl (gF o44 (show X0≤18446744073709551615 by omega))) rfl (by kernel_rfl) fun xr50 v48 r50 e49 hw3=>?_
        obtain rfl:=r50
        refine bO rfl rfl rfl (r:= .string (a7 (((s4.take 1)++([101]))++(aX 10 X0)))) rfl (fun w=>cX (a:=(s4.take 1)++([101])) (b:=aX 10 X0) (by have htx:=jQ X0 hX0b;simp only [cR,cJ,List.length_nil,bK];omega)) (mv 2 rfl (a0 (aJ (aI [.string (a7 (((s4.take 1)++([101]))++(aX 10 X0))),I0] rfl ⟨rfl,rfl,trivial⟩ ?_))))
        have hend:((s4.take 1)++([101]))++(aX 10 X0)=eF x n:=by unfold eF;rw [if_neg hx00,←hX0,hst,if_neg hn2,if_neg (of_decide_eq_false hsa.symm)];simp only [List.append_assoc,List.nil_append,iN]
        exact⟨_,rfl,⟨_,_,rfl,(show Value.string (a7 (((s4.take 1)++([101]))++(aX 10 X0)))=_ by rw [hend]),rfl⟩,hw3⟩
       · 
        refine a8 (pf g1 0 rfl (aQ rfl rfl (bE eG b_2 rfl) (a0 (aM rfl (a8 (mv 1 rfl (bO rfl rfl rfl (r:= .string (a7 (([45])++(s4.take 1)))) rfl (fun w=>cX (a:= [45]) (b:=s4.take 1) (by simp only [cJ,List.length_nil,bK];omega)) (mv 1 rfl (a0 (sr (mv 1 rfl (bO rfl rfl rfl (r:= .string (a7 ((([45])++(s4.take 1))++([101])))) rfl (fun w=>cX (a:=([45])++(s4.take 1)) (b:= [101]) (by simp only [cR,cJ,List.length_nil,bK];omega)) (mv 1 rfl ?_)))))))))))))
        refine bA rfl rfl (v:= .int .u64 (IntKind.u64.wrap ((X0:Nat):Int))) (v':= .int .u64 X0) (eH (by first | omega | exact hle64)) (dN rfl rfl (k:=1) (e:=65) [.int .u64 X0] (fun _=>by kernel_rfl) fun g51 v52 nb53=>?_)
        have o54:=O1.mk_ (x:=X0) (b:=w.heap.size) nb53 hw1.size
        have e55:=nb53.ext
        have hw2:=hw1.trans e55
        refine cl (vs:= [.slice (some ⟨g51,0,none⟩) 1 1]) hw2 (iZ rfl (gF o54 (show X0≤18446744073709551615 by omega))) rfl (by kernel_rfl) fun xr60 v58 r60 e59 hw3=>?_
        obtain rfl:=r60
        refine bO rfl rfl rfl (r:= .string (a7 (((([45])++(s4.take 1))++([101]))++(aX 10 X0)))) rfl (fun w=>cX (a:=(([45])++(s4.take 1))++([101])) (b:=aX 10 X0) (by have htx:=jQ X0 hX0b;simp only [cR,cJ,List.length_nil,bK];omega)) (mv 2 rfl (a0 (aJ (aI [.string (a7 (((([45])++(s4.take 1))++([101]))++(aX 10 X0))),I0] rfl ⟨rfl,rfl,trivial⟩ ?_))))
        have hend:((([45])++(s4.take 1))++([101]))++(aX 10 X0)=eF x n:=by unfold eF;rw [if_neg hx00,←hX0,hst,if_neg hn2,if_pos (of_decide_eq_true hsa.symm)];simp only [List.append_assoc,List.nil_append,iN]
        exact⟨_,rfl,⟨_,_,rfl,(show Value.string (a7 (((([45])++(s4.take 1))++([101]))++(aX 10 X0)))=_ by rw [hend]),rfl⟩,hw3⟩
   · 
    refine a8 (mv 1 rfl (bA rfl rfl (v:= .int .i64 (((a7 r).size:Nat):Int)) (v':= .int .i64 ((r.length:Nat):Int)) (by rw [cI]) (aB rfl rfl rfl false (cW (a:=r.length) (b:=0) rfl rfl) (a0 (aH rfl (aN (aE (gR (T:=a6×List Nat) (fun⟨wr,s3⟩=> [(1,.int .i64 n),(2,.pointer (some ⟨g1,0,none⟩)),(6,.string (a7 s3)),(7,.int .i64 x0)]) (fun⟨wr,s3⟩=>wr) (fun⟨wr,s3⟩=>(Ext w wr)∧(Bk wr g1 24 [.bool s0,.slice A na ca])∧(s3=if fZ (Int.natAbs x) n=10^n then aP (n+1) (10^n) else aP n (fZ (Int.natAbs x) n))) ?_ ?_))))))))
    · 
     refine aA ?_
     have hup:¬(n<dL (Int.natAbs x)∧gA (Int.natAbs x) (dL (Int.natAbs x)-n)):=fun h=>by have:=h.1;omega
     refine a8 (mv 1 rfl (bA rfl rfl (v:= .int .i64 (((a7 r).size:Nat):Int)) (v':= .int .i64 ((r.length:Nat):Int)) (by rw [cI]) (aB rfl rfl rfl false (cW (a:=r.length) (b:=0) rfl rfl) (mv 17 rfl (pu (v:= .bool false) rfl (a0 (aH rfl (aN (d5 (⟨wr,s2⟩:a6×List Nat) ⟨hw1,b_2,(hs2.trans (rZ hM hn1 hup))⟩ rfl ⟨rfl,rfl,rfl,rfl,trivial⟩)))))))))
    · 
     rintro⟨wr,s3⟩ ⟨hw1,b_2,hs3⟩
     refine cM [(1,.int .i64 n),(2,.pointer (some ⟨g1,0,none⟩)),(6,.string (a7 s3)),(7,.int .i64 x0)] wr rfl ⟨rfl,rfl,rfl,rfl,trivial⟩ (gR (T:=a6×List Nat×Nat) (fun⟨wr,s4,X0⟩=> [(1,.int .i64 n),(2,.pointer (some ⟨g1,0,none⟩)),(6,.string (a7 s4)),(7,.int .i64 X0)]) (fun⟨wr,s4,X0⟩=>wr) (fun⟨wr,s4,X0⟩=>(Ext w wr)∧(Bk wr g1 24 [.bool s0,.slice A na ca])∧(s4=aP n (fR (Int.natAbs x) n))∧(X0=gH (Int.natAbs x) n)) ?_ ?_)
     · 
      refine aA ?_
      by_cases hov:fZ (Int.natAbs x) n=10^n
      · 
       rw [if_pos hov] at hs3
       have hs3l:s3.length=n+1:=by rw [hs3,cV]
       refine a8 (mv 1 rfl (bA rfl rfl (v:= .int .i64 (((a7 s3).size:Nat):Int)) (v':= .int .i64 ((s3.length:Nat):Int)) (by rw [cI]) (mv 1 rfl (aB rfl rfl rfl true (dC (a:=s3.length) (b:=n) rfl rfl) (a0 (aM rfl (sr (mv 2 rfl (kY (bs:=s3) (i:=n) rfl rfl rfl Tryz.underlying9 (mv 1 rfl (a0 (a8 (mv 1 rfl ?_)))))))))))))
       refine aD rfl rfl rfl ((x0+1:Nat):Int) (bF (a:=x0) (b:=1) rfl rfl) (mv 1 rfl (aR (d5 (⟨wr,s3.take n,x0+1⟩:a6×List Nat×Nat) ⟨hw1,b_2,(by rw [hs3,sS (k:=1)];unfold fR;rw [if_pos hov];congr 1;exact wE hn1),(by unfold gH;rw [if_pos hov,hdL,hx0])⟩ rfl ⟨rfl,rfl,rfl,rfl,trivial⟩)))
      · 
       rw [if_neg hov] at hs3
       have hs3l:s3.length=n:=by rw [hs3,cV]
       refine a8 (mv 1 rfl (bA rfl rfl (v:= .int .i64 (((a7 s3).size:Nat):Int)) (v':= .int .i64 ((s3.length:Nat):Int)) (by rw [cI]) (mv 1 rfl (aB rfl rfl rfl false (cW (a:=s3.length) (b:=n) rfl rfl) (a0 (aH rfl (aN (d5 (⟨wr,s3,x0⟩:a6×List Nat×Nat) ⟨hw1,b_2,(by rw [hs3];unfold fR;rw [if_neg hov]),(by unfold gH;rw [if_neg hov,hdL,hx0];omega)⟩ rfl ⟨rfl,rfl,rfl,rfl,trivial⟩))))))))
     · 
      rintro⟨wr,s4,X0⟩ ⟨hw1,b_2,hs4,hX0⟩
      refine cM [(1,.int .i64 n),(2,.pointer (some ⟨g1,0,none⟩)),(6,.string (a7 s4)),(7,.int .i64 X0)] wr rfl ⟨rfl,rfl,rfl,rfl,trivial⟩ (aA ?_)
      have hs4l:s4.length=n:=by rw [hs4,cV]
      have hX0b:X0≤67108866:=by rw [hX0];unfold gH;split <;> omega
      have hst:=wN (q:=fR (Int.natAbs x) n) hn1
      rw [←hs4] at hst
      refine a8 (mv 1 rfl (kY (bs:=s4) (i:=1) rfl rfl rfl Tryz.underlying9 (mv 1 rfl (a0 (aA (aA ?_))))))
      by_cases hn2:n>1
      · 
       refine a8 (mv 1 rfl (aB rfl rfl rfl true (dC (a:=n) (b:=1) rfl rfl) (a0 (aM rfl (a8 (mv 1 rfl (bO rfl rfl rfl (r:= .string (a7 ((s4.take 1)++([46])))) rfl (fun w=>cX (a:=s4.take 1) (b:= [46]) (by simp only [cJ,List.length_nil,bK];omega)) (mv 1 rfl (lW (bs:=s4) (i:=1) rfl rfl rfl Tryz.underlying9 (bO rfl rfl rfl (r:= .string (a7 (((s4.take 1)++([46]))++(s4.drop 1)))) rfl (fun w=>cX (a:=(s4.take 1)++([46])) (b:=s4.drop 1) (by simp only [cR,cJ,List.length_nil,bK,cO];omega)) (mv 1 rfl (a0 (aA ?_)))))))))))))
       refine aA ?_
       have hsa:=mR hx hx00
       cases s0
       · 
        refine a8 (pf g1 0 rfl (aQ rfl rfl (bE eG b_2 rfl) (a0 (aH rfl (aN (aE (sr (mv 1 rfl (bO rfl rfl rfl (r:= .string (a7 ((((s4.take 1)++([46]))++(s4.drop 1))++([101])))) rfl (fun w=>cX (a:=((s4.take 1)++([46]))++(s4.drop 1)) (b:= [101]) (by simp only [cR,cJ,List.length_nil,bK,cO];omega)) (mv 1 rfl (bA rfl rfl (v:= .int .u64 (IntKind.u64.wrap ((X0:Nat):Int))) (v':= .int .u64 X0) (eH (by first | omega | exact hle64)) (dN rfl rfl (k:=1) (e:=65) [.int .u64 X0] (fun _=>by kernel_rfl) fun g61 v62 nb63=>?_))))))))))))
        have o64:=O1.mk_ (x:=X0) (b:=w.heap.size) nb63 hw1.size
        have e65:=nb63.ext
        have hw2:=hw1.trans e65
        refine cl (vs:= [.slice (some ⟨g61,0,none⟩) 1 1]) hw2 (iZ rfl (gF o64 (show X0≤18446744073709551615 by omega))) rfl (by kernel_rfl) fun xr70 v68 r70 e69 hw3=>?_
        obtain rfl:=r70
        refine bO rfl rfl rfl (r:= .string (a7 (((((s4.take 1)++([46]))++(s4.drop 1))++([101]))++(aX 10 X0)))) rfl (fun w=>cX (a:=(((s4.take 1)++([46]))++(s4.drop 1))++([101])) (b:=aX 10 X0) (by have htx:=jQ X0 hX0b;simp only [cR,cJ,List.length_nil,bK,cO];omega)) (mv 2 rfl (a0 (aJ (aI [.string (a7 (((((s4.take 1)++([46]))++(s4.drop 1))++([101]))++(aX 10 X0))),I0] rfl ⟨rfl,rfl,trivial⟩ ?_))))
        have hend:((((s4.take 1)++([46]))++(s4.drop 1))++([101]))++(aX 10 X0)=eF x n:=by unfold eF;rw [if_neg hx00,←hX0,hst,if_pos hn2,if_neg (of_decide_eq_false hsa.symm)];simp only [List.append_assoc,List.nil_append,iN]
        exact⟨_,rfl,⟨_,_,rfl,(show Value.string (a7 (((((s4.take 1)++([46]))++(s4.drop 1))++([101]))++(aX 10 X0)))=_ by rw [hend]),rfl⟩,hw3⟩
       · 
        refine a8 (pf g1 0 rfl (aQ rfl rfl (bE eG b_2 rfl) (a0 (aM rfl (a8 (mv 1 rfl (bO rfl rfl rfl (r:= .string (a7 (([45])++(((s4.take 1)++([46]))++(s4.drop 1))))) rfl (fun w=>cX (a:= [45]) (b:=((s4.take 1)++([46]))++(s4.drop 1)) (by simp only [cR,cJ,List.length_nil,bK,cO];omega)) (mv 1 rfl (a0 (sr (mv 1 rfl (bO rfl rfl rfl (r:= .string (a7 ((([45])++(((s4.take 1)++([46]))++(s4.drop 1)))++([101])))) rfl (fun w=>cX (a:=([45])++(((s4.take 1)++([46]))++(s4.drop 1))) (b:= [101]) (by simp only [cR,cJ,List.length_nil,bK,cO];omega)) (mv 1 rfl ?_)))))))))))))
        refine bA rfl rfl (v:= .int .u64 (IntKind.u64.wrap ((X0:Nat):Int))) (v':= .int .u64 X0) (eH (by first | omega | exact hle64)) (dN rfl rfl (k:=1) (e:=65) [.int .u64 X0] (fun _=>by kernel_rfl) fun g71 v72 nb73=>?_)
        have o74:=O1.mk_ (x:=X0) (b:=w.heap.size) nb73 hw1.size
        have e75:=nb73.ext
        have hw2:=hw1.trans e75
        refine cl (vs:= [.slice (some ⟨g71,0,none⟩) 1 1]) hw2 (iZ rfl (gF o74 (show X0≤18446744073709551615 by omega))) rfl (by kernel_rfl) fun xr80 v78 r80 e79 hw3=>?_
        obtain rfl:=r80
        refine bO rfl rfl rfl (r:= .string (a7 (((([45])++(((s4.take 1)++([46]))++(s4.drop 1)))++([101]))++(aX 10 X0)))) rfl (fun w=>cX (a:=(([45])++(((s4.take 1)++([46]))++(s4.drop 1)))++([101])) (b:=aX 10 X0) (by have htx:=jQ X0 hX0b;simp only [cR,cJ,List.length_nil,bK,cO];omega)) (mv 2 rfl (a0 (aJ (aI [.string (a7 (((([45])++(((s4.take 1)++([46]))++(s4.drop 1)))++([101]))++(aX 10 X0))),I0] rfl ⟨rfl,rfl,trivial⟩ ?_))))
        have hend:((([45])++(((s4.take 1)++([46]))++(s4.drop 1)))++([101]))++(aX 10 X0)=eF x n:=by unfold eF;rw [if_neg hx00,←hX0,hst,if_pos hn2,if_pos (of_decide_eq_true hsa.symm)];simp only [List.append_assoc,List.nil_append,iN]
        exact⟨_,rfl,⟨_,_,rfl,(show Value.string (a7 (((([45])++(((s4.take 1)++([46]))++(s4.drop 1)))++([101]))++(aX 10 X0)))=_ by rw [hend]),rfl⟩,hw3⟩
      · 
       refine a8 (mv 1 rfl (aB rfl rfl rfl false (cW (a:=n) (b:=1) rfl rfl) (a0 (aH rfl (aN (aE (aA (aA ?_))))))))
       have hsa:=mR hx hx00
       cases s0
       · 
        refine a8 (pf g1 0 rfl (aQ rfl rfl (bE eG b_2 rfl) (a0 (aH rfl (aN (aE (sr (mv 1 rfl (bO rfl rfl rfl (r:= .string (a7 ((s4.take 1)++([101])))) rfl (fun w=>cX (a:=s4.take 1) (b:= [101]) (by simp only [cJ,List.length_nil,bK];omega)) (mv 1 rfl (bA rfl rfl (v:= .int .u64 (IntKind.u64.wrap ((X0:Nat):Int))) (v':= .int .u64 X0) (eH (by first | omega | exact hle64)) (dN rfl rfl (k:=1) (e:=65) [.int .u64 X0] (fun _=>by kernel_rfl) fun g81 v82 nb83=>?_))))))))))))
        have o84:=O1.mk_ (x:=X0) (b:=w.heap.size) nb83 hw1.size
        have e85:=nb83.ext
        have hw2:=hw1.trans e85
        refine cl (vs:= [.slice (some ⟨g81,0,none⟩) 1 1]) hw2 (iZ rfl (gF o84 (show X0≤18446744073709551615 by omega))) rfl (by kernel_rfl) fun xr90 v88 r90 e89 hw3=>?_
        obtain rfl:=r90
        refine bO rfl rfl rfl (r:= .string (a7 (((s4.take 1)++([101]))++(aX 10 X0)))) rfl (fun w=>cX (a:=(s4.take 1)++([101])) (b:=aX 10 X0) (by have htx:=jQ X0 hX0b;simp only [cR,cJ,List.length_nil,bK];omega)) (mv 2 rfl (a0 (aJ (aI [.string (a7 (((s4.take 1)++([101]))++(aX 10 X0))),I0] rfl ⟨rfl,rfl,trivial⟩ ?_))))
        have hend:((s4.take 1)++([101]))++(aX 10 X0)=eF x n:=by unfold eF;rw [if_neg hx00,←hX0,hst,if_neg hn2,if_neg (of_decide_eq_false hsa.symm)];simp only [List.append_assoc,List.nil_append,iN]
        exact⟨_,rfl,⟨_,_,rfl,(show Value.string (a7 (((s4.take 1)++([101]))++(aX 10 X0)))=_ by rw [hend]),rfl⟩,hw3⟩
       · 
        refine a8 (pf g1 0 rfl (aQ rfl rfl (bE eG b_2 rfl) (a0 (aM rfl (a8 (mv 1 rfl (bO rfl rfl rfl (r:= .string (a7 (([45])++(s4.take 1)))) rfl (fun w=>cX (a:= [45]) (b:=s4.take 1) (by simp only [cJ,List.length_nil,bK];omega)) (mv 1 rfl (a0 (sr (mv 1 rfl (bO rfl rfl rfl (r:= .string (a7 ((([45])++(s4.take 1))++([101])))) rfl (fun w=>cX (a:=([45])++(s4.take 1)) (b:= [101]) (by simp only [cR,cJ,List.length_nil,bK];omega)) (mv 1 rfl ?_)))))))))))))
        refine bA rfl rfl (v:= .int .u64 (IntKind.u64.wrap ((X0:Nat):Int))) (v':= .int .u64 X0) (eH (by first | omega | exact hle64)) (dN rfl rfl (k:=1) (e:=65) [.int .u64 X0] (fun _=>by kernel_rfl) fun g91 v92 nb93=>?_)
        have o94:=O1.mk_ (x:=X0) (b:=w.heap.size) nb93 hw1.size
        have e95:=nb93.ext
        have hw2:=hw1.trans e95
        refine cl (vs:= [.slice (some ⟨g91,0,none⟩) 1 1]) hw2 (iZ rfl (gF o94 (show X0≤18446744073709551615 by omega))) rfl (by kernel_rfl) fun xr100 v98 r100 e99 hw3=>?_
        obtain rfl:=r100
        refine bO rfl rfl rfl (r:= .string (a7 (((([45])++(s4.take 1))++([101]))++(aX 10 X0)))) rfl (fun w=>cX (a:=(([45])++(s4.take 1))++([101])) (b:=aX 10 X0) (by have htx:=jQ X0 hX0b;simp only [cR,cJ,List.length_nil,bK];omega)) (mv 2 rfl (a0 (aJ (aI [.string (a7 (((([45])++(s4.take 1))++([101]))++(aX 10 X0))),I0] rfl ⟨rfl,rfl,trivial⟩ ?_))))
        have hend:((([45])++(s4.take 1))++([101]))++(aX 10 X0)=eF x n:=by unfold eF;rw [if_neg hx00,←hX0,hst,if_neg hn2,if_pos (of_decide_eq_true hsa.symm)];simp only [List.append_assoc,List.nil_append,iN]
        exact⟨_,rfl,⟨_,_,rfl,(show Value.string (a7 (((([45])++(s4.take 1))++([101]))++(aX 10 X0)))=_ by rw [hend]),rfl⟩,hw3⟩
 · 
  refine a8 (mv 1 rfl (bA rfl rfl (v:= .int .i64 (((a7 s).size:Nat):Int)) (v':= .int .i64 ((s.length:Nat):Int)) (by rw [cI]) (mv 1 rfl (aB rfl rfl rfl false (dP (a:=s.length) (b:=n) rfl rfl) (a0 (aH rfl (aN (aE (sr (mv 2 rfl (lW (bs:=s) (i:=n) rfl rfl rfl Tryz.underlying9 (mv 1 rfl (aR ?_)))))))))))))
  refine aE (gR (T:=a6×Nat×List Nat×List Nat) (fun⟨wr,x0,s2,r⟩=> [(1,.int .i64 n),(2,.pointer (some ⟨g1,0,none⟩)),(6,.string (a7 s2)),(7,.int .i64 x0),(8,.string (a7 r))]) (fun⟨wr,x0,s2,r⟩=>wr) (fun⟨wr,x0,s2,r⟩=>(Ext w wr)∧(Bk wr g1 24 [.bool s0,.slice A na ca])∧(x0=k)∧(s2=aP n (dI (Int.natAbs x) n))∧(r=aP (k+1-n) (Int.natAbs x))) ?_ ?_)
  · 
   refine a8 (mv 2 rfl (kY (bs:=s) (i:=n) rfl rfl rfl Tryz.underlying9 (mv 1 rfl (aR (d5 (⟨v6,s.length-1,s.take n,s.drop n⟩:a6×Nat×List Nat×List Nat) ⟨hw2,(hb4.ext e7),(by omega),(by rw [hs];exact (FQ hdL).2 (by omega)),(by rw [hs];exact PU (by omega))⟩ rfl ⟨rfl,rfl,rfl,rfl,rfl,trivial⟩)))))
  · 
   rintro⟨wr,x0,s2,r⟩ ⟨hw1,b_2,hx0,hs2,hr⟩
   refine cM [(1,.int .i64 n),(2,.pointer (some ⟨g1,0,none⟩)),(6,.string (a7 s2)),(7,.int .i64 x0),(8,.string (a7 r))] wr rfl ⟨rfl,rfl,rfl,rfl,rfl,trivial⟩ (sr (mv 1 rfl (a0 (aA (aA ?_)))))
   have hrl:r.length=k+1-n:=by rw [hr,cV]
   have hr256:∀c,c∈r→c<256:=fun c hc=>by rw [hr] at hc;have:=kB hc;omega
   by_cases hlong:r.length>0
   · 
    refine a8 (mv 1 rfl (bA rfl rfl (v:= .int .i64 (((a7 r).size:Nat):Int)) (v':= .int .i64 ((r.length:Nat):Int)) (by rw [cI]) (aB rfl rfl rfl true (dC (a:=r.length) (b:=0) rfl rfl) (a0 (aM rfl (a8 (mv 2 rfl (bA rfl rfl (v:= .int .i64 (((a7 r).size:Nat):Int)) (v':= .int .i64 ((r.length:Nat):Int)) (by rw [cI]) (aD rfl rfl rfl ((r.length-1:Nat):Int) (eT (a:=r.length) (b:=1) rfl rfl) (cl (vs:= [.int .i64 ((r.length-1:Nat):Int)]) hw1 (BB (n:=r.length-1)) rfl (by kernel_rfl) fun xr103 v101 r103 e102 hw2=>?_))))))))))
    obtain rfl:=r103
    refine bO rfl rfl rfl (r:= .string (a7 (([53])++(bP (r.length-1) 48)))) rfl (fun w=>cX (a:= [53]) (b:=bP (r.length-1) 48) (by simp only [List.length_replicate,cJ,List.length_nil];omega)) (mv 1 rfl (a0 (gR (T:=a6×List Nat) (fun⟨wr,s3⟩=> [(1,.int .i64 n),(2,.pointer (some ⟨g1,0,none⟩)),(6,.string (a7 s3)),(7,.int .i64 x0)]) (fun⟨wr,s3⟩=>wr) (fun⟨wr,s3⟩=>(Ext w wr)∧(Bk wr g1 24 [.bool s0,.slice A na ca])∧(s3=if fZ (Int.natAbs x) n=10^n then aP (n+1) (10^n) else aP n (fZ (Int.natAbs x) n))) ?_ ?_)))
    · 
     refine aA ?_
     have hmid: [53]++bP (r.length-1) 48=aP (k+1-n) (5*10^(k+1-n-1)):=by rw [hrl];exact CK.trans (by rw [show k+1-n-1+1=k+1-n by omega])
     have hm256:∀c,c∈ [53]++bP (r.length-1) 48→c<256:=fun c hc=>by rw [hmid] at hc;have:=kB hc;omega
     have hgt:=GC (m:=(Int.natAbs x)) (j:=k+1-n) (by omega)
     have heq:=GD (m:=(Int.natAbs x)) (j:=k+1-n) (by omega)
     rw [←hmid,←hr] at hgt heq
     have hodd:=FT (m:=(Int.natAbs x)) hdL (by omega) hn1
     rw [←hs2] at hodd
     have hs2l:s2.length=n:=by rw [hs2,cV]
     have hc255:s2.getD (n-1) 0<256:=by rw [hs2];have:=kB (iS (l:=aP n (dI (Int.natAbs x) n)) (i:=n-1) (by rw [cV];omega));omega
     have hs2b:∀c,c∈s2→c<256:=fun c hc=>by rw [hs2] at hc;have:=kB hc;omega
     by_cases hg:10^(k+1-n)<2*((Int.natAbs x)%10^(k+1-n))
     · 
      have hup:n<dL (Int.natAbs x)∧gA (Int.natAbs x) (dL (Int.natAbs x)-n):=⟨by omega,by rw [hdL];exact cH hg⟩
      refine a8 (mv 1 rfl (bA rfl rfl (v:= .int .i64 (((a7 r).size:Nat):Int)) (v':= .int .i64 ((r.length:Nat):Int)) (by rw [cI]) (aB rfl rfl rfl true (dC (a:=r.length) (b:=0) rfl rfl) (mv 3 rfl (oZ rfl rfl rfl hr256 hm256 true (hgt.trans (decide_eq_true hg)) (mv 12 rfl (pu (v:= .bool true) rfl (pu (v:= .bool true) rfl (a0 (aM rfl (a8 (mv 1 rfl (cl (vs:= [.string (a7 s2)]) hw2 (x9 hs2 rfl hn40 hn1 (m5 hM hn1).1) rfl (by kernel_rfl) fun xr106 v104 r106 e105 hw3=>?_)))))))))))))
      obtain rfl:=r106
      refine mv 1 rfl (aR (d5 (⟨v104,aX 10 (dI (Int.natAbs x) n+1)⟩:a6×List Nat) ⟨hw3,(b_2.ext (e102.trans e105)),(wO hM hn1 hup)⟩ rfl ⟨rfl,rfl,rfl,rfl,trivial⟩))
     · 
      by_cases hq:10^(k+1-n)=2*((Int.natAbs x)%10^(k+1-n))
      · 
       by_cases hod:s2.getD (n-1) 0%2=1
       · 
        have hup:n<dL (Int.natAbs x)∧gA (Int.natAbs x) (dL (Int.natAbs x)-n):=⟨by omega,by rw [hdL];exact bV ⟨hq,by omega⟩⟩
        refine a8 (mv 1 rfl (bA rfl rfl (v:= .int .i64 (((a7 r).size:Nat):Int)) (v':= .int .i64 ((r.length:Nat):Int)) (by rw [cI]) (aB rfl rfl rfl true (dC (a:=r.length) (b:=0) rfl rfl) (mv 3 rfl (oZ rfl rfl rfl hr256 hm256 false (hgt.trans (decide_eq_false hg)) (mv 3 rfl (fP (a:=r) (b:=([53])++(bP (r.length-1) 48)) rfl rfl rfl hr256 true (mY (heq.2 hq)) (mv 3 rfl (aD rfl rfl rfl ((n-1:Nat):Int) (eT (a:=n) (b:=1) rfl rfl) (dD (bs:=s2) (i:=n-1) rfl rfl rfl Tryz.underlying9 hs2b (aD rfl rfl rfl (((s2.getD (n-1) 0)%2:Nat):Int) (f7 (a:=s2.getD (n-1) 0) (b:=2) rfl rfl (h:=(by decide))) (aB rfl rfl rfl true (cZ (a:=(s2.getD (n-1) 0)%2) (b:=1) rfl rfl) (pu (v:= .bool true) rfl ?_)))))) (hb:=hm256))))))))
        refine pu (v:= .bool true) rfl (pu (v:= .bool true) rfl (a0 (aM rfl (a8 (mv 1 rfl (cl (vs:= [.string (a7 s2)]) hw2 (x9 hs2 rfl hn40 hn1 (m5 hM hn1).1) rfl (by kernel_rfl) fun xr109 v107 r109 e108 hw3=>?_))))))
        obtain rfl:=r109
        refine mv 1 rfl (aR (d5 (⟨v107,aX 10 (dI (Int.natAbs x) n+1)⟩:a6×List Nat) ⟨hw3,(b_2.ext (e102.trans e108)),(wO hM hn1 hup)⟩ rfl ⟨rfl,rfl,rfl,rfl,trivial⟩))
       · 
        have hup:¬(n<dL (Int.natAbs x)∧gA (Int.natAbs x) (dL (Int.natAbs x)-n)):=fun h=>by have h2:=h.2;rw [hdL] at h2;unfold gA at h2;omega
        refine a8 (mv 1 rfl (bA rfl rfl (v:= .int .i64 (((a7 r).size:Nat):Int)) (v':= .int .i64 ((r.length:Nat):Int)) (by rw [cI]) (aB rfl rfl rfl true (dC (a:=r.length) (b:=0) rfl rfl) (mv 3 rfl (oZ rfl rfl rfl hr256 hm256 false (hgt.trans (decide_eq_false hg)) (mv 3 rfl (fP (a:=r) (b:=([53])++(bP (r.length-1) 48)) rfl rfl rfl hr256 true (mY (heq.2 hq)) (mv 3 rfl (aD rfl rfl rfl ((n-1:Nat):Int) (eT (a:=n) (b:=1) rfl rfl) (dD (bs:=s2) (i:=n-1) rfl rfl rfl Tryz.underlying9 hs2b (aD rfl rfl rfl (((s2.getD (n-1) 0)%2:Nat):Int) (f7 (a:=s2.getD (n-1) 0) (b:=2) rfl rfl (h:=(by decide))) (aB rfl rfl rfl false (d4 (a:=(s2.getD (n-1) 0)%2) (b:=1) rfl rfl) (pu (v:= .bool false) rfl ?_)))))) (hb:=hm256))))))))
        refine pu (v:= .bool false) rfl (pu (v:= .bool false) rfl (a0 (aH rfl (aN (d5 (⟨v101,s2⟩:a6×List Nat) ⟨hw2,(b_2.ext e102),(hs2.trans (rZ hM hn1 hup))⟩ rfl ⟨rfl,rfl,rfl,rfl,trivial⟩)))))
      · 
       have hup:¬(n<dL (Int.natAbs x)∧gA (Int.natAbs x) (dL (Int.natAbs x)-n)):=fun h=>by have h2:=h.2;rw [hdL] at h2;unfold gA at h2;omega
       refine a8 (mv 1 rfl (bA rfl rfl (v:= .int .i64 (((a7 r).size:Nat):Int)) (v':= .int .i64 ((r.length:Nat):Int)) (by rw [cI]) (aB rfl rfl rfl true (dC (a:=r.length) (b:=0) rfl rfl) (mv 3 rfl (oZ rfl rfl rfl hr256 hm256 false (hgt.trans (decide_eq_false hg)) (mv 3 rfl (fP (a:=r) (b:=([53])++(bP (r.length-1) 48)) rfl rfl rfl hr256 false (pC (fun h=>hq (heq.1 h))) (mv 7 rfl (pu (v:= .bool false) rfl (pu (v:= .bool false) rfl (pu (v:= .bool false) rfl (a0 (aH rfl ?_)))))) (hb:=hm256))))))))
       refine aN (d5 (⟨v101,s2⟩:a6×List Nat) ⟨hw2,(b_2.ext e102),(hs2.trans (rZ hM hn1 hup))⟩ rfl ⟨rfl,rfl,rfl,rfl,trivial⟩)
    · 
     rintro⟨wr,s3⟩ ⟨hw1,b_2,hs3⟩
     refine cM [(1,.int .i64 n),(2,.pointer (some ⟨g1,0,none⟩)),(6,.string (a7 s3)),(7,.int .i64 x0)] wr rfl ⟨rfl,rfl,rfl,rfl,trivial⟩ (gR (T:=a6×List Nat×Nat) (fun⟨wr,s4,X0⟩=> [(1,.int .i64 n),(2,.pointer (some ⟨g1,0,none⟩)),(6,.string (a7 s4)),(7,.int .i64 X0)]) (fun⟨wr,s4,X0⟩=>wr) (fun⟨wr,s4,X0⟩=>(Ext w wr)∧(Bk wr g1 24 [.bool s0,.slice A na ca])∧(s4=aP n (fR (Int.natAbs x) n))∧(X0=gH (Int.natAbs x) n)) ?_ ?_)
     · 
      refine aA ?_
      by_cases hov:fZ (Int.natAbs x) n=10^n
      · 
       rw [if_pos hov] at hs3
       have hs3l:s3.length=n+1:=by rw [hs3,cV]
       refine a8 (mv 1 rfl (bA rfl rfl (v:= .int .i64 (((a7 s3).size:Nat):Int)) (v':= .int .i64 ((s3.length:Nat):Int)) (by rw [cI]) (mv 1 rfl (aB rfl rfl rfl true (dC (a:=s3.length) (b:=n) rfl rfl) (a0 (aM rfl (sr (mv 2 rfl (kY (bs:=s3) (i:=n) rfl rfl rfl Tryz.underlying9 (mv 1 rfl (a0 (a8 (mv 1 rfl ?_)))))))))))))
       refine aD rfl rfl rfl ((x0+1:Nat):Int) (bF (a:=x0) (b:=1) rfl rfl) (mv 1 rfl (aR (d5 (⟨wr,s3.take n,x0+1⟩:a6×List Nat×Nat) ⟨hw1,b_2,(by rw [hs3,sS (k:=1)];unfold fR;rw [if_pos hov];congr 1;exact wE hn1),(by unfold gH;rw [if_pos hov,hdL,hx0])⟩ rfl ⟨rfl,rfl,rfl,rfl,trivial⟩)))
      · 
       rw [if_neg hov] at hs3
       have hs3l:s3.length=n:=by rw [hs3,cV]
       refine a8 (mv 1 rfl (bA rfl rfl (v:= .int .i64 (((a7 s3).size:Nat):Int)) (v':= .int .i64 ((s3.length:Nat):Int)) (by rw [cI]) (mv 1 rfl (aB rfl rfl rfl false (cW (a:=s3.length) (b:=n) rfl rfl) (a0 (aH rfl (aN (d5 (⟨wr,s3,x0⟩:a6×List Nat×Nat) ⟨hw1,b_2,(by rw [hs3];unfold fR;rw [if_neg hov]),(by unfold gH;rw [if_neg hov,hdL,hx0];omega)⟩ rfl ⟨rfl,rfl,rfl,rfl,trivial⟩))))))))
     · 
      rintro⟨wr,s4,X0⟩ ⟨hw1,b_2,hs4,hX0⟩
      refine cM [(1,.int .i64 n),(2,.pointer (some ⟨g1,0,none⟩)),(6,.string (a7 s4)),(7,.int .i64 X0)] wr rfl ⟨rfl,rfl,rfl,rfl,trivial⟩ (aA ?_)
      have hs4l:s4.length=n:=by rw [hs4,cV]
      have hX0b:X0≤67108866:=by rw [hX0];unfold gH;split <;> omega
      have hst:=wN (q:=fR (Int.natAbs x) n) hn1
      rw [←hs4] at hst
      refine a8 (mv 1 rfl (kY (bs:=s4) (i:=1) rfl rfl rfl Tryz.underlying9 (mv 1 rfl (a0 (aA (aA ?_))))))
      by_cases hn2:n>1
      · 
       refine a8 (mv 1 rfl (aB rfl rfl rfl true (dC (a:=n) (b:=1) rfl rfl) (a0 (aM rfl (a8 (mv 1 rfl (bO rfl rfl rfl (r:= .string (a7 ((s4.take 1)++([46])))) rfl (fun w=>cX (a:=s4.take 1) (b:= [46]) (by simp only [cJ,List.length_nil,bK];omega)) (mv 1 rfl (lW (bs:=s4) (i:=1) rfl rfl rfl Tryz.underlying9 (bO rfl rfl rfl (r:= .string (a7 (((s4.take 1)++([46]))++(s4.drop 1)))) rfl (fun w=>cX (a:=(s4.take 1)++([46])) (b:=s4.drop 1) (by simp only [cR,cJ,List.length_nil,bK,cO];omega)) (mv 1 rfl (a0 (aA ?_)))))))))))))
       refine aA ?_
       have hsa:=mR hx hx00
       cases s0
       · 
        refine a8 (pf g1 0 rfl (aQ rfl rfl (bE eG b_2 rfl) (a0 (aH rfl (aN (aE (sr (mv 1 rfl (bO rfl rfl rfl (r:= .string (a7 ((((s4.take 1)++([46]))++(s4.drop 1))++([101])))) rfl (fun w=>cX (a:=((s4.take 1)++([46]))++(s4.drop 1)) (b:= [101]) (by simp only [cR,cJ,List.length_nil,bK,cO];omega)) (mv 1 rfl (bA rfl rfl (v:= .int .u64 (IntKind.u64.wrap ((X0:Nat):Int))) (v':= .int .u64 X0) (eH (by first | omega | exact hle64)) (dN rfl rfl (k:=1) (e:=65) [.int .u64 X0] (fun _=>by kernel_rfl) fun g110 v111 nb112=>?_))))))))))))
        have o113:=O1.mk_ (x:=X0) (b:=w.heap.size) nb112 hw1.size
        have e114:=nb112.ext
        have hw2:=hw1.trans e114
        refine cl (vs:= [.slice (some ⟨g110,0,none⟩) 1 1]) hw2 (iZ rfl (gF o113 (show X0≤18446744073709551615 by omega))) rfl (by kernel_rfl) fun xr119 v117 r119 e118 hw3=>?_
        obtain rfl:=r119
        refine bO rfl rfl rfl (r:= .string (a7 (((((s4.take 1)++([46]))++(s4.drop 1))++([101]))++(aX 10 X0)))) rfl (fun w=>cX (a:=(((s4.take 1)++([46]))++(s4.drop 1))++([101])) (b:=aX 10 X0) (by have htx:=jQ X0 hX0b;simp only [cR,cJ,List.length_nil,bK,cO];omega)) (mv 2 rfl (a0 (aJ (aI [.string (a7 (((((s4.take 1)++([46]))++(s4.drop 1))++([101]))++(aX 10 X0))),I0] rfl ⟨rfl,rfl,trivial⟩ ?_))))
        have hend:((((s4.take 1)++([46]))++(s4.drop 1))++([101]))++(aX 10 X0)=eF x n:=by unfold eF;rw [if_neg hx00,←hX0,hst,if_pos hn2,if_neg (of_decide_eq_false hsa.symm)];simp only [List.append_assoc,List.nil_append,iN]
        exact⟨_,rfl,⟨_,_,rfl,(show Value.string (a7 (((((s4.take 1)++([46]))++(s4.drop 1))++([101]))++(aX 10 X0)))=_ by rw [hend]),rfl⟩,hw3⟩
       · 
        refine a8 (pf g1 0 rfl (aQ rfl rfl (bE eG b_2 rfl) (a0 (aM rfl (a8 (mv 1 rfl (bO rfl rfl rfl (r:= .string (a7 (([45])++(((s4.take 1)++([46]))++(s4.drop 1))))) rfl (fun w=>cX (a:= [45]) (b:=((s4.take 1)++([46]))++(s4.drop 1)) (by simp only [cR,cJ,List.length_nil,bK,cO];omega)) (mv 1 rfl (a0 (sr (mv 1 rfl (bO rfl rfl rfl (r:= .string (a7 ((([45])++(((s4.take 1)++([46]))++(s4.drop 1)))++([101])))) rfl (fun w=>cX (a:=([45])++(((s4.take 1)++([46]))++(s4.drop 1))) (b:= [101]) (by simp only [cR,cJ,List.length_nil,bK,cO];omega)) (mv 1 rfl ?_)))))))))))))
        refine bA rfl rfl (v:= .int .u64 (IntKind.u64.wrap ((X0:Nat):Int))) (v':= .int .u64 X0) (eH (by first | omega | exact hle64)) (dN rfl rfl (k:=1) (e:=65) [.int .u64 X0] (fun _=>by kernel_rfl) fun g120 v121 nb122=>?_)
        have o123:=O1.mk_ (x:=X0) (b:=w.heap.size) nb122 hw1.size
        have e124:=nb122.ext
        have hw2:=hw1.trans e124
        refine cl (vs:= [.slice (some ⟨g120,0,none⟩) 1 1]) hw2 (iZ rfl (gF o123 (show X0≤18446744073709551615 by omega))) rfl (by kernel_rfl) fun xr129 v127 r129 e128 hw3=>?_
        obtain rfl:=r129
        refine bO rfl rfl rfl (r:= .string (a7 (((([45])++(((s4.take 1)++([46]))++(s4.drop 1)))++([101]))++(aX 10 X0)))) rfl (fun w=>cX (a:=(([45])++(((s4.take 1)++([46]))++(s4.drop 1)))++([101])) (b:=aX 10 X0) (by have htx:=jQ X0 hX0b;simp only [cR,cJ,List.length_nil,bK,cO];omega)) (mv 2 rfl (a0 (aJ (aI [.string (a7 (((([45])++(((s4.take 1)++([46]))++(s4.drop 1)))++([101]))++(aX 10 X0))),I0] rfl ⟨rfl,rfl,trivial⟩ ?_))))
        have hend:((([45])++(((s4.take 1)++([46]))++(s4.drop 1)))++([101]))++(aX 10 X0)=eF x n:=by unfold eF;rw [if_neg hx00,←hX0,hst,if_pos hn2,if_pos (of_decide_eq_true hsa.symm)];simp only [List.append_assoc,List.nil_append,iN]
        exact⟨_,rfl,⟨_,_,rfl,(show Value.string (a7 (((([45])++(((s4.take 1)++([46]))++(s4.drop 1)))++([101]))++(aX 10 X0)))=_ by rw [hend]),rfl⟩,hw3⟩
      · 
       refine a8 (mv 1 rfl (aB rfl rfl rfl false (cW (a:=n) (b:=1) rfl rfl) (a0 (aH rfl (aN (aE (aA (aA ?_))))))))
       have hsa:=mR hx hx00
       cases s0
       · 
        refine a8 (pf g1 0 rfl (aQ rfl rfl (bE eG b_2 rfl) (a0 (aH rfl (aN (aE (sr (mv 1 rfl (bO rfl rfl rfl (r:= .string (a7 ((s4.take 1)++([101])))) rfl (fun w=>cX (a:=s4.take 1) (b:= [101]) (by simp only [cJ,List.length_nil,bK];omega)) (mv 1 rfl (bA rfl rfl (v:= .int .u64 (IntKind.u64.wrap ((X0:Nat):Int))) (v':= .int .u64 X0) (eH (by first | omega | exact hle64)) (dN rfl rfl (k:=1) (e:=65) [.int .u64 X0] (fun _=>by kernel_rfl) fun g130 v131 nb132=>?_))))))))))))
        have o133:=O1.mk_ (x:=X0) (b:=w.heap.size) nb132 hw1.size
        have e134:=nb132.ext
        have hw2:=hw1.trans e134
        refine cl (vs:= [.slice (some ⟨g130,0,none⟩) 1 1]) hw2 (iZ rfl (gF o133 (show X0≤18446744073709551615 by omega))) rfl (by kernel_rfl) fun xr139 v137 r139 e138 hw3=>?_
        obtain rfl:=r139
        refine bO rfl rfl rfl (r:= .string (a7 (((s4.take 1)++([101]))++(aX 10 X0)))) rfl (fun w=>cX (a:=(s4.take 1)++([101])) (b:=aX 10 X0) (by have htx:=jQ X0 hX0b;simp only [cR,cJ,List.length_nil,bK];omega)) (mv 2 rfl (a0 (aJ (aI [.string (a7 (((s4.take 1)++([101]))++(aX 10 X0))),I0] rfl ⟨rfl,rfl,trivial⟩ ?_))))
        have hend:((s4.take 1)++([101]))++(aX 10 X0)=eF x n:=by unfold eF;rw [if_neg hx00,←hX0,hst,if_neg hn2,if_neg (of_decide_eq_false hsa.symm)];simp only [List.append_assoc,List.nil_append,iN]
        exact⟨_,rfl,⟨_,_,rfl,(show Value.string (a7 (((s4.take 1)++([101]))++(aX 10 X0)))=_ by rw [hend]),rfl⟩,hw3⟩
       · 
        refine a8 (pf g1 0 rfl (aQ rfl rfl (bE eG b_2 rfl) (a0 (aM rfl (a8 (mv 1 rfl (bO rfl rfl rfl (r:= .string (a7 (([45])++(s4.take 1)))) rfl (fun w=>cX (a:= [45]) (b:=s4.take 1) (by simp only [cJ,List.length_nil,bK];omega)) (mv 1 rfl (a0 (sr (mv 1 rfl (bO rfl rfl rfl (r:= .string (a7 ((([45])++(s4.take 1))++([101])))) rfl (fun w=>cX (a:=([45])++(s4.take 1)) (b:= [101]) (by simp only [cR,cJ,List.length_nil,bK];omega)) (mv 1 rfl ?_)))))))))))))
        refine bA rfl rfl (v:= .int .u64 (IntKind.u64.wrap ((X0:Nat):Int))) (v':= .int .u64 X0) (eH (by first | omega | exact hle64)) (dN rfl rfl (k:=1) (e:=65) [.int .u64 X0] (fun _=>by kernel_rfl) fun g140 v141 nb142=>?_)
        have o143:=O1.mk_ (x:=X0) (b:=w.heap.size) nb142 hw1.size
        have e144:=nb142.ext
        have hw2:=hw1.trans e144
        refine cl (vs:= [.slice (some ⟨g140,0,none⟩) 1 1]) hw2 (iZ rfl (gF o143 (show X0≤18446744073709551615 by omega))) rfl (by kernel_rfl) fun xr149 v147 r149 e148 hw3=>?_
        obtain rfl:=r149
        refine bO rfl rfl rfl (r:= .string (a7 (((([45])++(s4.take 1))++([101]))++(aX 10 X0)))) rfl (fun w=>cX (a:=(([45])++(s4.take 1))++([101])) (b:=aX 10 X0) (by have htx:=jQ X0 hX0b;simp only [cR,cJ,List.length_nil,bK];omega)) (mv 2 rfl (a0 (aJ (aI [.string (a7 (((([45])++(s4.take 1))++([101]))++(aX 10 X0))),I0] rfl ⟨rfl,rfl,trivial⟩ ?_))))
        have hend:((([45])++(s4.take 1))++([101]))++(aX 10 X0)=eF x n:=by unfold eF;rw [if_neg hx00,←hX0,hst,if_neg hn2,if_pos (of_decide_eq_true hsa.symm)];simp only [List.append_assoc,List.nil_append,iN]
        exact⟨_,rfl,⟨_,_,rfl,(show Value.string (a7 (((([45])++(s4.take 1))++([101]))++(aX 10 X0)))=_ by rw [hend]),rfl⟩,hw3⟩
   · 
    refine a8 (mv 1 rfl (bA rfl rfl (v:= .int .i64 (((a7 r).size:Nat):Int)) (v':= .int .i64 ((r.length:Nat):Int)) (by rw [cI]) (aB rfl rfl rfl false (cW (a:=r.length) (b:=0) rfl rfl) (a0 (aH rfl (aN (aE (gR (T:=a6×List Nat) (fun⟨wr,s3⟩=> [(1,.int .i64 n),(2,.pointer (some ⟨g1,0,none⟩)),(6,.string (a7 s3)),(7,.int .i64 x0)]) (fun⟨wr,s3⟩=>wr) (fun⟨wr,s3⟩=>(Ext w wr)∧(Bk wr g1 24 [.bool s0,.slice A na ca])∧(s3=if fZ (Int.natAbs x) n=10^n then aP (n+1) (10^n) else aP n (fZ (Int.natAbs x) n))) ?_ ?_))))))))
    · 
     refine aA ?_
     have hup:¬(n<dL (Int.natAbs x)∧gA (Int.natAbs x) (dL (Int.natAbs x)-n)):=fun h=>by have:=h.1;omega
     refine a8 (mv 1 rfl (bA rfl rfl (v:= .int .i64 (((a7 r).size:Nat):Int)) (v':= .int .i64 ((r.length:Nat):Int)) (by rw [cI]) (aB rfl rfl rfl false (cW (a:=r.length) (b:=0) rfl rfl) (mv 17 rfl (pu (v:= .bool false) rfl (a0 (aH rfl (aN (d5 (⟨wr,s2⟩:a6×List Nat) ⟨hw1,b_2,(hs2.trans (rZ hM hn1 hup))⟩ rfl ⟨rfl,rfl,rfl,rfl,trivial⟩)))))))))
    · 
     rintro⟨wr,s3⟩ ⟨hw1,b_2,hs3⟩
     refine cM [(1,.int .i64 n),(2,.pointer (some ⟨g1,0,none⟩)),(6,.string (a7 s3)),(7,.int .i64 x0)] wr rfl ⟨rfl,rfl,rfl,rfl,trivial⟩ (gR (T:=a6×List Nat×Nat) (fun⟨wr,s4,X0⟩=> [(1,.int .i64 n),(2,.pointer (some ⟨g1,0,none⟩)),(6,.string (a7 s4)),(7,.int .i64 X0)]) (fun⟨wr,s4,X0⟩=>wr) (fun⟨wr,s4,X0⟩=>(Ext w wr)∧(Bk wr g1 24 [.bool s0,.slice A na ca])∧(s4=aP n (fR (Int.natAbs x) n))∧(X0=gH (Int.natAbs x) n)) ?_ ?_)
     · 
      refine aA ?_
      by_cases hov:fZ (Int.natAbs x) n=10^n
      · 
       rw [if_pos hov] at hs3
       have hs3l:s3.length=n+1:=by rw [hs3,cV]
       refine a8 (mv 1 rfl (bA rfl rfl (v:= .int .i64 (((a7 s3).size:Nat):Int)) (v':= .int .i64 ((s3.length:Nat):Int)) (by rw [cI]) (mv 1 rfl (aB rfl rfl rfl true (dC (a:=s3.length) (b:=n) rfl rfl) (a0 (aM rfl (sr (mv 2 rfl (kY (bs:=s3) (i:=n) rfl rfl rfl Tryz.underlying9 (mv 1 rfl (a0 (a8 (mv 1 rfl ?_)))))))))))))
       refine aD rfl rfl rfl ((x0+1:Nat):Int) (bF (a:=x0) (b:=1) rfl rfl) (mv 1 rfl (aR (d5 (⟨wr,s3.take n,x0+1⟩:a6×List Nat×Nat) ⟨hw1,b_2,(by rw [hs3,sS (k:=1)];unfold fR;rw [if_pos hov];congr 1;exact wE hn1),(by unfold gH;rw [if_pos hov,hdL,hx0])⟩ rfl ⟨rfl,rfl,rfl,rfl,trivial⟩)))
      · 
       rw [if_neg hov] at hs3
       have hs3l:s3.length=n:=by rw [hs3,cV]
       refine a8 (mv 1 rfl (bA rfl rfl (v:= .int .i64 (((a7 s3).size:Nat):Int)) (v':= .int .i64 ((s3.length:Nat):Int)) (by rw [cI]) (mv 1 rfl (aB rfl rfl rfl false (cW (a:=s3.length) (b:=n) rfl rfl) (a0 (aH rfl (aN (d5 (⟨wr,s3,x0⟩:a6×List Nat×Nat) ⟨hw1,b_2,(by rw [hs3];unfold fR;rw [if_neg hov]),(by unfold gH;rw [if_neg hov,hdL,hx0];omega)⟩ rfl ⟨rfl,rfl,rfl,rfl,trivial⟩))))))))
     · 
      rintro⟨wr,s4,X0⟩ ⟨hw1,b_2,hs4,hX0⟩
      refine cM [(1,.int .i64 n),(2,.pointer (some ⟨g1,0,none⟩)),(6,.string (a7 s4)),(7,.int .i64 X0)] wr rfl ⟨rfl,rfl,rfl,rfl,trivial⟩ (aA ?_)
      have hs4l:s4.length=n:=by rw [hs4,cV]
      have hX0b:X0≤67108866:=by rw [hX0];unfold gH;split <;> omega
      have hst:=wN (q:=fR (Int.natAbs x) n) hn1
      rw [←hs4] at hst
      refine a8 (mv 1 rfl (kY (bs:=s4) (i:=1) rfl rfl rfl Tryz.underlying9 (mv 1 rfl (a0 (aA (aA ?_))))))
      by_cases hn2:n>1
      · 
       refine a8 (mv 1 rfl (aB rfl rfl rfl true (dC (a:=n) (b:=1) rfl rfl) (a0 (aM rfl (a8 (mv 1 rfl (bO rfl rfl rfl (r:= .string (a7 ((s4.take 1)++([46])))) rfl (fun w=>cX (a:=s4.take 1) (b:= [46]) (by simp only [cJ,List.length_nil,bK];omega)) (mv 1 rfl (lW (bs:=s4) (i:=1) rfl rfl rfl Tryz.underlying9 (bO rfl rfl rfl (r:= .string (a7 (((s4.take 1)++([46]))++(s4.drop 1)))) rfl (fun w=>cX (a:=(s4.take 1)++([46])) (b:=s4.drop 1) (by simp only [cR,cJ,List.length_nil,bK,cO];omega)) (mv 1 rfl (a0 (aA ?_)))))))))))))
       refine aA ?_
       have hsa:=mR hx hx00
       cases s0
       · 
        refine a8 (pf g1 0 rfl (aQ rfl rfl (bE eG b_2 rfl) (a0 (aH rfl (aN (aE (sr (mv 1 rfl (bO rfl rfl rfl (r:= .string (a7 ((((s4.take 1)++([46]))++(s4.drop 1))++([101])))) rfl (fun w=>cX (a:=((s4.take 1)++([46]))++(s4.drop 1)) (b:= [101]) (by simp only [cR,cJ,List.length_nil,bK,cO];omega)) (mv 1 rfl (bA rfl rfl (v:= .int .u64 (IntKind.u64.wrap ((X0:Nat):Int))) (v':= .int .u64 X0) (eH (by first | omega | exact hle64)) (dN rfl rfl (k:=1) (e:=65) [.int .u64 X0] (fun _=>by kernel_rfl) fun g150 v151 nb152=>?_))))))))))))
        have o153:=O1.mk_ (x:=X0) (b:=w.heap.size) nb152 hw1.size
        have e154:=nb152.ext
        have hw2:=hw1.trans e154
        refine cl (vs:= [.slice (some ⟨g150,0,none⟩) 1 1]) hw2 (iZ rfl (gF o153 (show X0≤18446744073709551615 by omega))) rfl (by kernel_rfl) fun xr159 v157 r159 e158 hw3=>?_
        obtain rfl:=r159
        refine bO rfl rfl rfl (r:= .string (a7 (((((s4.take 1)++([46]))++(s4.drop 1))++([101]))++(aX 10 X0)))) rfl (fun w=>cX (a:=(((s4.take 1)++([46]))++(s4.drop 1))++([101])) (b:=aX 10 X0) (by have htx:=jQ X0 hX0b;simp only [cR,cJ,List.length_nil,bK,cO];omega)) (mv 2 rfl (a0 (aJ (aI [.string (a7 (((((s4.take 1)++([46]))++(s4.drop 1))++([101]))++(aX 10 X0))),I0] rfl ⟨rfl,rfl,trivial⟩ ?_))))
        have hend:((((s4.take 1)++([46]))++(s4.drop 1))++([101]))++(aX 10 X0)=eF x n:=by unfold eF;rw [if_neg hx00,←hX0,hst,if_pos hn2,if_neg (of_decide_eq_false hsa.symm)];simp only [List.append_assoc,List.nil_append,iN]
        exact⟨_,rfl,⟨_,_,rfl,(show Value.string (a7 (((((s4.take 1)++([46]))++(s4.drop 1))++([101]))++(aX 10 X0)))=_ by rw [hend]),rfl⟩,hw3⟩
       · 
        refine a8 (pf g1 0 rfl (aQ rfl rfl (bE eG b_2 rfl) (a0 (aM rfl (a8 (mv 1 rfl (bO rfl rfl rfl (r:= .string (a7 (([45])++(((s4.take 1)++([46]))++(s4.drop 1))))) rfl (fun w=>cX (a:= [45]) (b:=((s4.take 1)++([46]))++(s4.drop 1)) (by simp only [cR,cJ,List.length_nil,bK,cO];omega)) (mv 1 rfl (a0 (sr (mv 1 rfl (bO rfl rfl rfl (r:= .string (a7 ((([45])++(((s4.take 1)++([46]))++(s4.drop 1)))++([101])))) rfl (fun w=>cX (a:=([45])++(((s4.take 1)++([46]))++(s4.drop 1))) (b:= [101]) (by simp only [cR,cJ,List.length_nil,bK,cO];omega)) (mv 1 rfl ?_)))))))))))))
        refine bA rfl rfl (v:= .int .u64 (IntKind.u64.wrap ((X0:Nat):Int))) (v':= .int .u64 X0) (eH (by first | omega | exact hle64)) (dN rfl rfl (k:=1) (e:=65) [.int .u64 X0] (fun _=>by kernel_rfl) fun g160 v161 nb162=>?_)
        have o163:=O1.mk_ (x:=X0) (b:=w.heap.size) nb162 hw1.size
        have e164:=nb162.ext
        have hw2:=hw1.trans e164
        refine cl (vs:= [.slice (some ⟨g160,0,none⟩) 1 1]) hw2 (iZ rfl (gF o163 (show X0≤18446744073709551615 by omega))) rfl (by kernel_rfl) fun xr169 v167 r169 e168 hw3=>?_
        obtain rfl:=r169
        refine bO rfl rfl rfl (r:= .string (a7 (((([45])++(((s4.take 1)++([46]))++(s4.drop 1)))++([101]))++(aX 10 X0)))) rfl (fun w=>cX (a:=(([45])++(((s4.take 1)++([46]))++(s4.drop 1)))++([101])) (b:=aX 10 X0) (by have htx:=jQ X0 hX0b;simp only [cR,cJ,List.length_nil,bK,cO];omega)) (mv 2 rfl (a0 (aJ (aI [.string (a7 (((([45])++(((s4.take 1)++([46]))++(s4.drop 1)))++([101]))++(aX 10 X0))),I0] rfl ⟨rfl,rfl,trivial⟩ ?_))))
        have hend:((([45])++(((s4.take 1)++([46]))++(s4.drop 1)))++([101]))++(aX 10 X0)=eF x n:=by unfold eF;rw [if_neg hx00,←hX0,hst,if_pos hn2,if_pos (of_decide_eq_true hsa.symm)];simp only [List.append_assoc,List.nil_append,iN]
        exact⟨_,rfl,⟨_,_,rfl,(show Value.string (a7 (((([45])++(((s4.take 1)++([46]))++(s4.drop 1)))++([101]))++(aX 10 X0)))=_ by rw [hend]),rfl⟩,hw3⟩
      · 
       refine a8 (mv 1 rfl (aB rfl rfl rfl false (cW (a:=n) (b:=1) rfl rfl) (a0 (aH rfl (aN (aE (aA (aA ?_))))))))
       have hsa:=mR hx hx00
       cases s0
       · 
        refine a8 (pf g1 0 rfl (aQ rfl rfl (bE eG b_2 rfl) (a0 (aH rfl (aN (aE (sr (mv 1 rfl (bO rfl rfl rfl (r:= .string (a7 ((s4.take 1)++([101])))) rfl (fun w=>cX (a:=s4.take 1) (b:= [101]) (by simp only [cJ,List.length_nil,bK];omega)) (mv 1 rfl (bA rfl rfl (v:= .int .u64 (IntKind.u64.wrap ((X0:Nat):Int))) (v':= .int .u64 X0) (eH (by first | omega | exact hle64)) (dN rfl rfl (k:=1) (e:=65) [.int .u64 X0] (fun _=>by kernel_rfl) fun g170 v171 nb172=>?_))))))))))))
        have o173:=O1.mk_ (x:=X0) (b:=w.heap.size) nb172 hw1.size
        have e174:=nb172.ext
        have hw2:=hw1.trans e174
        refine cl (vs:= [.slice (some ⟨g170,0,none⟩) 1 1]) hw2 (iZ rfl (gF o173 (show X0≤18446744073709551615 by omega))) rfl (by kernel_rfl) fun xr179 v177 r179 e178 hw3=>?_
        obtain rfl:=r179
        refine bO rfl rfl rfl (r:= .string (a7 (((s4.take 1)++([101]))++(aX 10 X0)))) rfl (fun w=>cX (a:=(s4.take 1)++([101])) (b:=aX 10 X0) (by have htx:=jQ X0 hX0b;simp only [cR,cJ,List.length_nil,bK];omega)) (mv 2 rfl (a0 (aJ (aI [.string (a7 (((s4.take 1)++([101]))++(aX 10 X0))),I0] rfl ⟨rfl,rfl,trivial⟩ ?_))))
        have hend:((s4.take 1)++([101]))++(aX 10 X0)=eF x n:=by unfold eF;rw [if_neg hx00,←hX0,hst,if_neg hn2,if_neg (of_decide_eq_false hsa.symm)];simp only [List.append_assoc,List.nil_append,iN]
        exact⟨_,rfl,⟨_,_,rfl,(show Value.string (a7 (((s4.take 1)++([101]))++(aX 10 X0)))=_ by rw [hend]),rfl⟩,hw3⟩
       · 
        refine a8 (pf g1 0 rfl (aQ rfl rfl (bE eG b_2 rfl) (a0 (aM rfl (a8 (mv 1 rfl (bO rfl rfl rfl (r:= .string (a7 (([45])++(s4.take 1)))) rfl (fun w=>cX (a:= [45]) (b:=s4.take 1) (by simp only [cJ,List.length_nil,bK];omega)) (mv 1 rfl (a0 (sr (mv 1 rfl (bO rfl rfl rfl (r:= .string (a7 ((([45])++(s4.take 1))++([101])))) rfl (fun w=>cX (a:=([45])++(s4.take 1)) (b:= [101]) (by simp only [cR,cJ,List.length_nil,bK];omega)) (mv 1 rfl ?_)))))))))))))
        refine bA rfl rfl (v:= .int .u64 (IntKind.u64.wrap ((X0:Nat):Int))) (v':= .int .u64 X0) (eH (by first | omega | exact hle64)) (dN rfl rfl (k:=1) (e:=65) [.int .u64 X0] (fun _=>by kernel_rfl) fun g180 v181 nb182=>?_)
        have o183:=O1.mk_ (x:=X0) (b:=w.heap.size) nb182 hw1.size
        have e184:=nb182.ext
        have hw2:=hw1.trans e184
        refine cl (vs:= [.slice (some ⟨g180,0,none⟩) 1 1]) hw2 (iZ rfl (gF o183 (show X0≤18446744073709551615 by omega))) rfl (by kernel_rfl) fun xr189 v187 r189 e188 hw3=>?_
        obtain rfl:=r189
        refine bO rfl rfl rfl (r:= .string (a7 (((([45])++(s4.take 1))++([101]))++(aX 10 X0)))) rfl (fun w=>cX (a:=(([45])++(s4.take 1))++([101])) (b:=aX 10 X0) (by have htx:=jQ X0 hX0b;simp only [cR,cJ,List.length_nil,bK];omega)) (mv 2 rfl (a0 (aJ (aI [.string (a7 (((([45])++(s4.take 1))++([101]))++(aX 10 X0))),I0] rfl ⟨rfl,rfl,trivial⟩ ?_))))
        have hend:((([45])++(s4.take 1))++([101]))++(aX 10 X0)=eF x n:=by unfold eF;rw [if_neg hx00,←hX0,hst,if_neg hn2,if_pos (of_decide_eq_true hsa.symm)];simp only [List.append_assoc,List.nil_append,iN]
        exact⟨_,rfl,⟨_,_,rfl,(show Value.string (a7 (((([45])++(s4.take 1))++([101]))++(aX 10 X0)))=_ by rw [hend]),rfl⟩,hw3⟩
set_option maxHeartbeats 4000000 in
theorem SO {w:a6}{n:Int}(hx:Zi w s0 A na ca x)(la:na≤1048576)(hn:n<1∨40<n):
    aL aF 174 #[.agg #[.bool s0,.slice A na ca],.int .i64 n] w (Gv w (T2 (Is (.string (a7 []))) (Is (.int .i64 3)))):=by
 have Lx:ln x≤1048576:=aK hx.ln la
 refine bL Tryz.func174 rfl (n:=103) rfl (bq rfl) (args:= [.agg #[.bool s0,.slice A na ca],.int .i64 n]) (bB [(0,.agg #[.bool s0,.slice A na ca]),(1,.int .i64 n)] ⟨rfl,rfl,trivial⟩ (sr (bx [.bool s0,.slice A na ca] (Ext.refl w) rfl rfl rfl fun g1 v2 hb4 ge5 e3 hw1=>(mv 2 rfl (a0 (aA (aA ?_)))))))
 by_cases h1:n<1
 · 
  refine a8 (mv 1 rfl (aB rfl rfl rfl true (oF h1) (mv 3 rfl (pu (v:= .bool true) rfl (a0 (aM rfl (sr (mv 2 rfl (a0 (aJ (bJ (aI [.string (a7 ([])),.int .i64 3] rfl ⟨rfl,rfl,trivial⟩ ?_))))))))))))
  exact⟨_,rfl,⟨_,_,rfl,rfl,rfl⟩,hw1⟩
 · 
  refine a8 (mv 1 rfl (aB rfl rfl rfl false (lL) (mv 2 rfl (aB rfl rfl rfl true (pU (by omega)) (pu (v:= .bool true) rfl (a0 (aM rfl (sr (mv 2 rfl (a0 (aJ (bJ (aI [.string (a7 ([])),.int .i64 3] rfl ⟨rfl,rfl,trivial⟩ ?_)))))))))))))
  exact⟨_,rfl,⟨_,_,rfl,rfl,rfl⟩,hw1⟩
set_option maxHeartbeats 4000000 in
theorem SN {w:a6}(hx:Zi w s0 A na ca x)(la:na≤1048576)(hx0:x=0)(hn1:1≤n)(hn40:n≤40):
    aL aF 174 #[.agg #[.bool s0,.slice A na ca],.int .i64 n] w (Gv w (T2 (Is (.string (a7 [48]))) (Is (.int .i64 0)))):=by
 have Lx:ln x≤1048576:=aK hx.ln la
 obtain⟨s,hs⟩:∃s,s=aX 10 (Int.natAbs x):=⟨_,rfl⟩
 have hs48:s= [48]:=by rw [hs,hx0];rfl
 have hs256:∀c,c∈s→c<256:=fun c hc=>by rw [hs48] at hc;rw [iW] at hc;omega
 refine bL Tryz.func174 rfl (n:=103) rfl (bq rfl) (args:= [.agg #[.bool s0,.slice A na ca],.int .i64 n]) (bB [(0,.agg #[.bool s0,.slice A na ca]),(1,.int .i64 n)] ⟨rfl,rfl,trivial⟩ (sr (bx [.bool s0,.slice A na ca] (Ext.refl w) rfl rfl rfl fun g1 v2 hb4 ge5 e3 hw1=>(mv 2 rfl (a0 (aA (sr (mv 1 rfl (aB rfl rfl rfl false (dP (a:=n) (b:=1) rfl rfl) (mv 2 rfl (aB rfl rfl rfl false (cW (a:=n) (b:=40) rfl rfl) (pu (v:= .bool false) rfl (aR ?_)))))))))))))
 refine aE (aH rfl (aN (aE (sr (pf g1 1 rfl (aQ rfl rfl (bE eW hb4 rfl) (cl (vs:= [.slice A na ca]) hw1 (iZ (s:=s) hs (hx.ext hw1).wi (hal:=(cC la rfl))) rfl (by kernel_rfl) fun xr8 v6 r8 e7 hw2=>?_)))))))
 obtain rfl:=r8
 refine mv 1 rfl (a0 (aA (sr (mv 1 rfl (fP (a:=s) (b:= [48]) rfl rfl rfl hs256 true (mY (hs48)) (a0 (aM rfl (sr (mv 2 rfl (a0 (aJ (bJ (aI [.string (a7 ([48])),I0] rfl ⟨rfl,rfl,trivial⟩ ?_)))))))))))))
 exact⟨_,rfl,⟨_,_,rfl,rfl,rfl⟩,hw2⟩
theorem VJ (hb:f<18446744073709551616)(h:¬fin f)(hm:f%4503599627370496≠0):(FloatKind.f64.format.order f f != some .eq)=true:=by
 show (Ieee.double.order f f != some .eq)=true
 obtain⟨s,t,hr⟩:∃s t,Ieee.double.read f= .nan s t:=by
  unfold fin mg at h
  unfold Ieee.Format.read
  simp only [yD,yF,yE]
  rw [if_neg (by omega),if_neg (by omega),if_neg (by omega)]
  exact⟨_,_,rfl⟩
 unfold Ieee.Format.order
 rw [hr];rfl
set_option maxHeartbeats 4000000 in
theorem X8 {w:a6}(hb:f<18446744073709551616)(hf:¬fin f)(hm:f%4503599627370496≠0):
    aL aF 216 #[.float .f64 f] w (Gv w (Is (.bool true))):=by
 refine bL Tryz.func216 rfl (n:=6) rfl (bq rfl) (args:= [.float .f64 f]) (bB [(0,.float .f64 f)] ⟨rfl,trivial⟩ (sr (mv 1 rfl (a0 (sr (mv 2 rfl (bA rfl rfl (v:= .bool (FloatKind.f64.format.order f f != some .eq)) (v':= .bool true) (congrArg Value.bool (VJ hb hf hm)) (mv 1 rfl (a0 (aJ (aI [.bool true] rfl ⟨rfl,trivial⟩ ?_)))))))))))
 exact⟨_,rfl,rfl,(Ext.refl w)⟩
set_option maxHeartbeats 4000000 in
theorem X9 {w:a6}:
    aL aF 216 #[.float .f64 9218868437227405312] w (Gv w (Is (.bool false))):=by
 refine bL Tryz.func216 rfl (n:=6) rfl (bq rfl) (args:= [.float .f64 9218868437227405312]) (bB [(0,.float .f64 9218868437227405312)] ⟨rfl,trivial⟩ (sr (mv 1 rfl (a0 (sr (mv 2 rfl (bA rfl rfl (v:= .bool (FloatKind.f64.format.order 9218868437227405312 9218868437227405312 != some .eq)) (v':= .bool false) (congrArg Value.bool (show (FloatKind.f64.format.order 9218868437227405312 9218868437227405312 != some .eq)=false by decide)) (mv 1 rfl (a0 (aJ (aI [F0] rfl ⟨rfl,trivial⟩ ?_)))))))))))
 exact⟨_,rfl,rfl,(Ext.refl w)⟩
set_option maxHeartbeats 4000000 in
theorem XB {w:a6}:
    aL aF 216 #[.float .f64 18442240474082181120] w (Gv w (Is (.bool false))):=by
 refine bL Tryz.func216 rfl (n:=6) rfl (bq rfl) (args:= [.float .f64 18442240474082181120]) (bB [(0,.float .f64 18442240474082181120)] ⟨rfl,trivial⟩ (sr (mv 1 rfl (a0 (sr (mv 2 rfl (bA rfl rfl (v:= .bool (FloatKind.f64.format.order 18442240474082181120 18442240474082181120 != some .eq)) (v':= .bool false) (congrArg Value.bool (show (FloatKind.f64.format.order 18442240474082181120 18442240474082181120 != some .eq)=false by decide)) (mv 1 rfl (a0 (aJ (aI [F0] rfl ⟨rfl,trivial⟩ ?_)))))))))))
 exact⟨_,rfl,rfl,(Ext.refl w)⟩
set_option maxHeartbeats 4000000 in
theorem XE {w:a6}:
    aL aF 217 #[.float .f64 18442240474082181120,.int .i64 1] w (Gv w (Is (.bool false))):=by
 refine bL Tryz.func217 rfl (n:=15) rfl (bq rfl) (args:= [.float .f64 18442240474082181120,.int .i64 1]) (bB [(0,.float .f64 18442240474082181120),(1,.int .i64 1)] ⟨rfl,rfl,trivial⟩ (sr (mv 1 rfl (a0 (aA (sr (mv 1 rfl (aB rfl rfl rfl false (by decide) (a0 (aH rfl (sr (mv 1 rfl (aB rfl rfl rfl false (by decide) ?_)))))))))))))
 refine a0 (aH rfl (aN (aE (sr (mv 1 rfl (bA rfl rfl (v:= .bool (FloatKind.f64.format.order 18442240474082181120 9218868437227405311==some .gt)) (v':= .bool false) (congrArg Value.bool (show (FloatKind.f64.format.order 18442240474082181120 9218868437227405311==some .gt)=false by decide)) (mv 1 rfl (a0 (aJ (aI [F0] rfl ⟨rfl,trivial⟩ ?_))))))))))
 exact⟨_,rfl,rfl,(Ext.refl w)⟩
set_option maxHeartbeats 4000000 in
theorem XI {w:a6}{s:Bool}(hx:Zi w s A n cap x)(la:n≤67108864)(hb:f<18446744073709551616)(hf:¬fin f)(hm:f%4503599627370496≠0):
    aL aF 173 #[.agg #[.bool s,.slice A n cap],.float .f64 f] w (Gv w (T2 (Is (.int .i64 0)) (Is (.int .i64 3)))):=by
 have Lx:ln x≤67108864:=aK hx.ln la
 refine bL Tryz.func173 rfl (n:=48) rfl (bq rfl) (args:= [.agg #[.bool s,.slice A n cap],.float .f64 f]) (bB [(0,.agg #[.bool s,.slice A n cap]),(1,.float .f64 f)] ⟨rfl,rfl,trivial⟩ (sr (bx [.bool s,.slice A n cap] (Ext.refl w) rfl rfl rfl fun g1 v2 hb4 ge5 e3 hw1=>(mv 2 rfl (a0 (aA (bM (sr (mv 1 rfl (cl (vs:= [.float .f64 f]) hw1 (X8 hb hf hm) rfl (by kernel_rfl) fun xr8 v6 r8 e7 hw2=>?_))))))))))
 obtain rfl:=r8
 refine mv 1 rfl (a0 (aM rfl (sr (mv 2 rfl (a0 (aJ (dZ (bJ (aI [I0,.int .i64 3] rfl ⟨rfl,rfl,trivial⟩ ?_)))))))))
 exact⟨_,rfl,⟨_,_,rfl,rfl,rfl⟩,hw2⟩
set_option maxHeartbeats 4000000 in
theorem XJ {w:a6}{s:Bool}(hx:Zi w s A n cap x)(la:n≤67108864):
    aL aF 173 #[.agg #[.bool s,.slice A n cap],.float .f64 9218868437227405312] w (Gv w (T2 (Is (.int .i64 (-1))) (Is (.int .i64 0)))):=by
 have Lx:ln x≤67108864:=aK hx.ln la
 refine bL Tryz.func173 rfl (n:=48) rfl (bq rfl) (args:= [.agg #[.bool s,.slice A n cap],.float .f64 9218868437227405312]) (bB [(0,.agg #[.bool s,.slice A n cap]),(1,.float .f64 9218868437227405312)] ⟨rfl,rfl,trivial⟩ (sr (bx [.bool s,.slice A n cap] (Ext.refl w) rfl rfl rfl fun g1 v2 hb4 ge5 e3 hw1=>(mv 2 rfl (a0 (aA (bM (sr (mv 1 rfl (cl (vs:= [.float .f64 9218868437227405312]) hw1 (X9) rfl (by kernel_rfl) fun xr8 v6 r8 e7 hw2=>?_))))))))))
 obtain rfl:=r8
 refine mv 1 rfl (a0 (aH rfl (sr (mv 1 rfl (cl (vs:= [.float .f64 9218868437227405312,.int .i64 1]) hw2 (XG) rfl (by kernel_rfl) fun xr11 v9 r11 e10 hw3=>?_)))))
 obtain rfl:=r11
 refine mv 1 rfl (a0 (aM rfl (sr (mv 2 rfl (a0 (aJ (dZ (bJ (aI [.int .i64 (-1),I0] rfl ⟨rfl,rfl,trivial⟩ ?_)))))))))
 exact⟨_,rfl,⟨_,_,rfl,rfl,rfl⟩,hw3⟩
set_option maxHeartbeats 4000000 in
theorem XK {w:a6}{s:Bool}(hx:Zi w s A n cap x)(la:n≤67108864):
    aL aF 173 #[.agg #[.bool s,.slice A n cap],.float .f64 18442240474082181120] w (Gv w (T2 (Is (.int .i64 1)) (Is (.int .i64 0)))):=by
 have Lx:ln x≤67108864:=aK hx.ln la
 refine bL Tryz.func173 rfl (n:=48) rfl (bq rfl) (args:= [.agg #[.bool s,.slice A n cap],.float .f64 18442240474082181120]) (bB [(0,.agg #[.bool s,.slice A n cap]),(1,.float .f64 18442240474082181120)] ⟨rfl,rfl,trivial⟩ (sr (bx [.bool s,.slice A n cap] (Ext.refl w) rfl rfl rfl fun g1 v2 hb4 ge5 e3 hw1=>(mv 2 rfl (a0 (aA (bM (sr (mv 1 rfl (cl (vs:= [.float .f64 18442240474082181120]) hw1 (XB) rfl (by kernel_rfl) fun xr8 v6 r8 e7 hw2=>?_))))))))))
 obtain rfl:=r8
 refine mv 1 rfl (a0 (aH rfl (sr (mv 1 rfl (cl (vs:= [.float .f64 18442240474082181120,.int .i64 1]) hw2 (XE) rfl (by kernel_rfl) fun xr11 v9 r11 e10 hw3=>?_)))))
 obtain rfl:=r11
 refine mv 1 rfl (a0 (aH rfl (sr (mv 1 rfl (cl (vs:= [.float .f64 18442240474082181120,.int .i64 (-1)]) hw3 (XH) rfl (by kernel_rfl) fun xr14 v12 r14 e13 hw4=>?_)))))
 obtain rfl:=r14
 refine mv 1 rfl (a0 (aM rfl (sr (mv 2 rfl (a0 (aJ (dZ (bJ (aI [.int .i64 1,I0] rfl ⟨rfl,rfl,trivial⟩ ?_)))))))))
 exact⟨_,rfl,⟨_,_,rfl,rfl,rfl⟩,hw4⟩
end
section
open Go.RowKit
open Ieee
theorem U4:cN (3*2^bN) 1=4613937818241073152:=by
 have e:rv 4613937818241073152=3*2^bN:=by
  obtain⟨p,hp⟩:∃p,p=1023:=⟨_,rfl⟩
  have h:=lI (p:=p) (m:=6755399441055744) (bV (by decide)) (hm:=(by decide))
  rw [show p*4503599627370496+6755399441055744=4613937818241073152 by subst hp;decide] at h
  have e0:bN=51+p:=by rw [iA,hp]
  rw [h,e0,bU,←bC]
 have h:=U9 (D:=1) (r:=4613937818241073152) (by decide)
 rw [Nat.one_mul,e] at h
 unfold cN
 rw [h];rfl
theorem TY:mB (sg true 3)=13837309855095848960:=by
 unfold mB
 have e1:(sg true 3).natAbs=3:=rfl
 have e2:decide (sg true 3<0)=true:=by decide
 rw [e1,e2,U4];rfl
theorem ZS:(FloatKind.f64.format.order (mB (sg true 3)) 13837309855095848960==some .eq)=true:=by
 rw [TY]
 show (double.order 13837309855095848960 13837309855095848960==some .eq)=true
 rw [BI (by decide) (by decide) (by decide) (by decide),Int.compare_eq_eq.2 rfl];rfl
set_option maxHeartbeats 4000000 in
theorem WV {w:a6}:
    aL aF 29 #[] w (Gv w (Is (.bool true))):=by
 refine bL Tryz.func29 rfl (n:=7) rfl (bq rfl) (args:= []) (bB [] trivial (sr (mv 1 rfl (a0 (sr (dN rfl rfl (k:=1) (e:=65) [.int .u64 3] (fun _=>by kernel_rfl) fun g1 v2 nb3=>?_))))))
 have o4:=O1.mk_ (x:=3) (b:=w.heap.size) nb3 (Ext.refl w).size
 have e5:=nb3.ext
 have hw1:=(Ext.refl w).trans e5
 have o7:=i6 o4 (show 3≤18446744073709551615 by decide) (show 3≠0 by decide)
 have j6:=gP (show 3≤18446744073709551615 by decide) (show 3≠0 by decide)
 have z8:=yU true (show 3≠0 by decide) j6 o7
 refine pu (v:= .agg #[.bool true,.slice (some ⟨g1,0,none⟩) 1 1]) rfl (cl (vs:= [.agg #[.bool true,.slice (some ⟨g1,0,none⟩) 1 1]]) hw1 (K3 z8.zi (z8.le (aK (qU (s:=true) (Nat.le_of_eq j6.symm)) (by decide)))) rfl (by kernel_rfl) fun xr11 v9 r11 e10 hw2=>?_)
 obtain rfl:=r11
 refine mv 1 rfl (a0 (sr (mv 1 rfl (bA rfl rfl (v:= .bool (FloatKind.f64.format.order (mB (sg true 3)) 13837309855095848960==some .eq)) (v':= .bool true) (congrArg Value.bool ZS) (mv 1 rfl (a0 (aJ (aI [.bool true] rfl ⟨rfl,trivial⟩ ?_))))))))
 exact⟨_,rfl,rfl,hw2⟩
def FL (b n:Nat)(xs:List Nat)(v:aG)(w:a6):Prop:=∃g,v= .slice (some ⟨g,0,none⟩) n n∧b≤g∧Bk w g 73 (xs.map oQ)
theorem YS (hi:i<l.length)(hx:i<xs.length)(h:l.take i=xs.take i):(l.set i (xs.getD i 0)).take (i+1)=xs.take (i+1):=by
 rw [List.take_add_one,List.take_add_one,List.take_set_of_le (aZ _),h,List.getElem?_set_self hi,bD,cK hx]
 rfl
set_option maxHeartbeats 4000000 in
theorem WT {w:a6}{b0:Nat}(hb0:b0≤w.heap.size)(hx:Rd w A n cap xs)(hn:n≤1048576):
    aL aF 120 #[.slice A n cap] w (Gv w (FL b0 n xs)):=by
 have hlen:=hx.len
 refine bL Tryz.func120 rfl (n:=23) rfl (bq rfl) (args:= [.slice A n cap]) (bB [(0,.slice A n cap)] ⟨rfl,trivial⟩ (sr (mv 1 rfl (a0 (sr (mv 1 rfl (pu (v:= .int .i64 n) rfl (mT rfl (k:=n) rfl rfl rfl AB VL rfl fun g1 v2 hg3 hb4 e5=>?_))))))))
 rw [R7] at hb4
 have ge6:w.heap.size≤g1:=by rw [←hg3];exact (Ext.refl w).size
 have ne8:0<cap→∀a,A=some a→a.block≠g1:=fun hc a ha=>by have:=(hx).rv.blk a ha hc;omega
 clear hg3
 have hw1:=(Ext.refl w).trans e5
 refine mv 1 rfl (a0 (aA (sr (mv 1 rfl (a0 (bM ?_))))))
 refine dS (T:=a6×Nat×List Nat)
  (fun⟨wr,i,l⟩=> [(0,.slice A n cap),(3,.slice (some ⟨g1,0,none⟩) n n),(4,.int .i64 i)])
  (fun⟨wr,i,l⟩=>wr)
  (fun⟨wr,i,l⟩=>(Ext w wr)∧(i≤n)∧(Bk wr g1 73 (l.map oQ))∧(l.length=n)∧(l.take i=xs.take i)∧(Rd wr A n cap xs))
  (fun⟨wr,i,l⟩=>n-i)
  (⟨v2,0,_⟩:a6×Nat×List Nat) ⟨hw1,(bZ _),hb4,(List.length_replicate (n:=n) (a:=0)),(by rw [List.take_zero,List.take_zero]),(hx.ext e5)⟩ rfl ⟨rfl,rfl,rfl,trivial⟩ ?_
 rintro⟨wr,i,l⟩ ⟨hw1,hi,hb,hl,hv,rl0⟩
 refine cM [(0,.slice A n cap),(3,.slice (some ⟨g1,0,none⟩) n n),(4,.int .i64 i)] wr rfl ⟨rfl,rfl,rfl,trivial⟩ (aA (aA ?_))
 by_cases hin:i<n
 · 
  refine a8 (mv 2 rfl (pu (v:= .int .i64 n) rfl (aB rfl rfl rfl true (dV (a:=i) (b:=n) rfl rfl) (a0 (aM rfl (aN (aE (aA (bM (a8 (mv 4 rfl ?_)))))))))))
  obtain⟨p9,hp9,hc9,hv9⟩:=(rl0).at (i:=i) (by omega)
  refine bX rfl rfl rfl cA bT i rfl p9 hp9 (aQ rfl rfl (dG d8 hc9) (pu (v:= .float .f64 (xs.getD i 0)) rfl (bX rfl rfl rfl AB AK i rfl ⟨g1,i,none⟩ (dQ _ _) ?_)))
  have hb11:=hb
  refine eM rfl rfl rfl AK rfl hb11 (fV (by rw [hl];omega)) rfl ((l.set i (xs.getD i 0)).map oQ) (UY _ _ _) fun v10 hb12 u13 hs14=>?_
  have hw2:=u13.ext hw1 ge6
  refine aR (cE (aE (a8 (mv 1 rfl (aD rfl rfl rfl ((i+1:Nat):Int) (bF (a:=i) (b:=1) rfl rfl) (mv 1 rfl (aR (cU (⟨v10,i+1,_⟩:a6×Nat×List Nat) ⟨hw2,(by omega),hb12,(by rw [List.length_set];exact hl),(YS (by omega) (by omega) hv),(Rd.updL rl0 u13 ne8)⟩ (show n-(i+1)<n-i by omega) rfl ⟨rfl,rfl,rfl,trivial⟩))))))))
 · 
  have hie:i=n:=by omega
  have hlx:l=xs:=by rw [hie,List.take_of_length_le (by omega),List.take_of_length_le (by omega)] at hv;exact hv
  refine a8 (mv 2 rfl (pu (v:= .int .i64 n) rfl (aB rfl rfl rfl false (dP (a:=i) (b:=n) rfl rfl) (a0 (aH rfl (dB (d7 (d9 (dA (aE (sr (mv 2 rfl (aR ?_)))))))))))))
  refine aE (aJ (aI [.slice (some ⟨g1,0,none⟩) n n] rfl ⟨rfl,trivial⟩ ?_))
  have hB:=hb
  rw [hlx] at hB
  exact⟨_,rfl,⟨g1,rfl,aK hb0 ge6,hB⟩,hw1⟩
end
section
open Go.RowKit
theorem VU {w:a6}{b:Bool}:∀e w',Gv w (Is (.bool b)) e w'→zD b w e w':=by
 rintro e w' ⟨v,rfl,rfl,hx⟩
 exact⟨rfl,hx⟩
set_option maxHeartbeats 4000000 in
theorem WF {w:a6}{n:Int}(hx:Zi w sa Aa na ca x)(la:na≤1048576)(hn:n<1∨40<n):
    aL aF 175 #[.agg #[.bool sa,.slice Aa na ca],.int .i64 n] w (Gv w (T2 (Is (.string (a7 []))) (Is (.int .i64 3)))):=by
 refine bL Tryz.func175 rfl (n:=113) rfl (bq rfl) (args:= [.agg #[.bool sa,.slice Aa na ca],.int .i64 n]) (bB [(0,.agg #[.bool sa,.slice Aa na ca]),(1,.int .i64 n)] ⟨rfl,rfl,trivial⟩ (sr (bx [.bool sa,.slice Aa na ca] (Ext.refl w) rfl rfl rfl fun g1 v2 hb4 ge5 e3 hw1=>(mv 2 rfl (a0 (aA (aA ?_)))))))
 by_cases h1:n<1
 · 
  refine a8 (mv 1 rfl (aB rfl rfl rfl true (oF h1) (mv 3 rfl (pu (v:= .bool true) rfl (a0 (aM rfl (sr (mv 2 rfl (a0 (aJ (bJ (aI [.string (a7 ([])),.int .i64 3] rfl ⟨rfl,rfl,trivial⟩ ?_))))))))))))
  exact⟨_,rfl,⟨_,_,rfl,rfl,rfl⟩,hw1⟩
 · 
  refine a8 (mv 1 rfl (aB rfl rfl rfl false (lL) (mv 2 rfl (aB rfl rfl rfl true (pU (by omega)) (pu (v:= .bool true) rfl (a0 (aM rfl (sr (mv 2 rfl (a0 (aJ (bJ (aI [.string (a7 ([])),.int .i64 3] rfl ⟨rfl,rfl,trivial⟩ ?_)))))))))))))
  exact⟨_,rfl,⟨_,_,rfl,rfl,rfl⟩,hw1⟩
set_option maxHeartbeats 4000000 in
theorem WE {w:a6}(hx:Zi w sa Aa na ca x)(la:na≤1048576)(hS:Signs w)(hx0:x=0)(hn1:1≤n)(hn40:n≤40):
    aL aF 175 #[.agg #[.bool sa,.slice Aa na ca],.int .i64 n] w (Gv w (T2 (Is (.string (a7 [48]))) (Is (.int .i64 0)))):=by
 have Lx:ln x≤1048576:=aK hx.ln la
 refine bL Tryz.func175 rfl (n:=113) rfl (bq rfl) (args:= [.agg #[.bool sa,.slice Aa na ca],.int .i64 n]) (bB [(0,.agg #[.bool sa,.slice Aa na ca]),(1,.int .i64 n)] ⟨rfl,rfl,trivial⟩ (sr (bx [.bool sa,.slice Aa na ca] (Ext.refl w) rfl rfl rfl fun g1 v2 hb4 ge5 e3 hw1=>(mv 2 rfl (a0 (aA (aA ?_)))))))
 have h48:aX 10 (Int.natAbs x)= [48]:=by rw [hx0];rfl
 refine a8 (mv 1 rfl (aB rfl rfl rfl false (dP (a:=n) (b:=1) rfl rfl) (mv 2 rfl (aB rfl rfl rfl false (cW (a:=n) (b:=40) rfl rfl) (pu (v:= .bool false) rfl (a0 (aH rfl (aN (aE (sr (pf g1 1 rfl (aQ rfl rfl (bE eW hb4 rfl) (cl (vs:= [.slice Aa na ca]) hw1 (AV (hS.ext hw1) (hx.ext hw1).wi (cC la rfl)) rfl (by kernel_rfl) fun xr8 v6 r8 e7 hw2=>?_)))))))))))))
 obtain rfl:=r8
 refine mv 1 rfl (a0 (aA (sr (mv 1 rfl (fP (a:=aX 10 (Int.natAbs x)) (b:= [48]) rfl rfl rfl (fun b hb=>by rw [h48,iW] at hb;omega) true (mY (h48)) (a0 (aM rfl (sr (mv 3 rfl (a0 (aJ (bJ (aI [.string (a7 (aX 10 (Int.natAbs x))),I0] rfl ⟨rfl,rfl,trivial⟩ ?_)))))))))))))
 exact⟨_,rfl,⟨_,_,rfl,(show Value.string _=_ by rw [h48]),rfl⟩,hw2⟩
theorem JQ {w:a6}{b b':Nat}{d:Nat}(hx:Own w b 65 1 A n c ((wd k).map b8))(hl:n≤1099511627776)(hy:Own w b' 65 1 B m d ((wd k).map b8))(hl':m≤1099511627776):
  aL aF 108 #[.slice A n c,.slice B m d] w (Gv w (Is (.bool true))):=by
 have h:=RT (hx.rd (oP _)) hl (hy.rd (oP _)) hl'
 rw [decide_eq_true rfl] at h
 exact h.mono W7
set_option maxHeartbeats 4000000 in
theorem JY {w:a6}{b1 b2:Nat}{nb:Nat}(ha:Zr w b1 sa Aa na ca x)(la:na≤1099511627776)(hb:Zr w b2 sb Ab nb cb x)(lb:nb≤1099511627776):
    aL aF 36 #[.agg #[.bool sa,.slice Aa na ca],.agg #[.bool sb,.slice Ab nb cb]] w (Gv w (Is (.bool true))):=by
 refine bL Tryz.func36 rfl (n:=17) rfl (bq rfl) (args:= [.agg #[.bool sa,.slice Aa na ca],.agg #[.bool sb,.slice Ab nb cb]]) (bB [(0,.agg #[.bool sa,.slice Aa na ca]),(1,.agg #[.bool sb,.slice Ab nb cb])] ⟨rfl,rfl,trivial⟩ (sr (bx [.bool sa,.slice Aa na ca] (Ext.refl w) rfl rfl rfl fun g1 v2 hb4 ge5 e3 hw1=>(sU [.bool sb,.slice Ab nb cb] hw1 hb4.lt rfl rfl rfl fun g6 v7 hb9 ge10 q11 e8 hw2=>(mv 1 rfl (a0 (aA ?_)))))))
 by_cases hx0:x<0
 · 
  obtain rfl:sa=true:=by rw [ha.sgn,decide_eq_true hx0]
  obtain rfl:sb=true:=by rw [hb.sgn,decide_eq_true hx0]
  refine a8 (pf g1 0 rfl (aQ rfl rfl (bE eG (hb4.ext e8) rfl) (pf g6 0 rfl (aQ rfl rfl (bE eG hb9 rfl) (pu (v:= .bool true) rfl (mv 1 rfl (pf g1 1 rfl (aQ rfl rfl (bE eW (hb4.ext e8) rfl) (pf g6 1 rfl (aQ rfl rfl (bE eW hb9 rfl) (cl (vs:= [.slice Aa na ca,.slice Ab nb cb]) hw2 (JQ (ha.ext (e3.trans e8)).own la (hb.ext (e3.trans e8)).own lb) rfl (by kernel_rfl) fun xr14 v12 r14 e13 hw3=>?_)))))))))))
  obtain rfl:=r14
  refine pu (v:= .bool true) rfl (mv 1 rfl (a0 (aJ (aI [.bool true] rfl ⟨rfl,trivial⟩ ?_))))
  exact⟨_,rfl,rfl,hw3⟩
 · 
  obtain rfl:sa=false:=by rw [ha.sgn,decide_eq_false hx0]
  obtain rfl:sb=false:=by rw [hb.sgn,decide_eq_false hx0]
  refine a8 (pf g1 0 rfl (aQ rfl rfl (bE eG (hb4.ext e8) rfl) (pf g6 0 rfl (aQ rfl rfl (bE eG hb9 rfl) (pu (v:= .bool true) rfl (mv 1 rfl (pf g1 1 rfl (aQ rfl rfl (bE eW (hb4.ext e8) rfl) (pf g6 1 rfl (aQ rfl rfl (bE eW hb9 rfl) (cl (vs:= [.slice Aa na ca,.slice Ab nb cb]) hw2 (JQ (ha.ext (e3.trans e8)).own la (hb.ext (e3.trans e8)).own lb) rfl (by kernel_rfl) fun xr17 v15 r17 e16 hw3=>?_)))))))))))
  obtain rfl:=r17
  refine pu (v:= .bool true) rfl (mv 1 rfl (a0 (aJ (aI [.bool true] rfl ⟨rfl,trivial⟩ ?_))))
  exact⟨_,rfl,rfl,hw3⟩
theorem PV:∀b,b∈eF x n→b<256:=by
 intro b hb
 unfold eF pE at hb
 split at hb
 ·rw [iW] at hb;omega
 ·simp only [nR] at hb
  rcases hb with (h | h | h) | h | h
  ·split at h
   ·rw [iW] at h;omega
   ·cases h
  ·have:=kB (List.mem_of_mem_take h);omega
  ·split at h
   ·rcases nR.1 h with h | h
    ·rw [iW] at h;omega
    ·have:=kB (gG h);omega
   ·cases h
  ·rw [iW] at h;omega
  ·have:=(O9 (m:=(gH x.natAbs n))).1 b h;omega
theorem V5:ln (eJ f)≤34:=by
 unfold ln eJ
 rw [oD]
 exact aK (oG (h:=(by have:=I3 f;omega))) (by decide)
theorem ZL:∃(f:Nat) (e:Int),∀{w:a6}{s:Bool}{A:Option aC}{n cap:Nat}{t:Bool}{B:Option aC}{m cap2:Nat},Zi w s A n cap x→n≤1048576→Zi w t B m cap2 y→m≤1048576→
  aL aF 168 #[.agg #[.bool s,.slice A n cap],.agg #[.bool t,.slice B m cap2]] w (Gv w (T2 (Is (.int .u64 f)) (Is (.int .i64 e))))∧aL aF 169 #[.agg #[.bool s,.slice A n cap],.agg #[.bool t,.slice B m cap2]] w (Gv w (T2 (Is (.float .f64 f)) (Is (.int .i64 e)))):=by
 by_cases h0:y=0
 ·exact⟨0,4,fun hx la hy lb=>⟨SR hx (aK la (by decide)) hy (aK lb (by decide)) h0,X6 hx (aK la (by decide)) hy (aK lb (by decide)) h0⟩⟩
 ·exact⟨uE x y,0,fun hx la hy lb=>⟨SS hx (aK la (by decide)) hy (aK lb (by decide)) h0,X7 hx (aK la (by decide)) hy (aK lb (by decide)) h0⟩⟩
theorem ZI (hb:f<18446744073709551616):∃z e:Int,ln z≤34∧∀{w:a6},aL aF 32 #[.int .u64 f] w (Gv w (T2 (ZR w.heap.size z) (Is (.int .i64 e))))∧aL aF 34 #[.float .f64 f] w (Gv w (T2 (ZR w.heap.size z) (Is (.int .i64 e)))):=by
 by_cases hf:fin f
 ·exact⟨iI f,0,V4 hf,fun {w}=>⟨SH hb hf,X4 (aZ _) hb hf⟩⟩
 ·exact⟨0,3,by decide,fun {w}=>⟨SG hb hf,X3 (aZ _) hb hf⟩⟩
theorem ZJ (hb:f<18446744073709551616):∃z k e:Int,ln z≤34∧∀{w:a6},aL aF 33 #[.int .u64 f] w (Gv w (T3 (ZR w.heap.size z) (Is (.int .i64 k)) (Is (.int .i64 e))))∧aL aF 35 #[.float .f64 f] w (Gv w (T3 (ZR w.heap.size z) (Is (.int .i64 k)) (Is (.int .i64 e)))):=by
 by_cases hf:fin f
 ·exact⟨eJ f,eV f,0,V5,fun {w}=>⟨SM hb hf,C9 (aZ _) hb hf⟩⟩
 ·exact⟨0,0,3,by decide,fun {w}=>⟨SL hb hf,K1 (aZ _) hb hf⟩⟩
theorem ZM (hb:f<18446744073709551616):∃c e:Int,∀{w:a6}{s:Bool}{A:Option aC}{n cap:Nat},Zi w s A n cap x→n≤1048576→
  aL aF 172 #[.agg #[.bool s,.slice A n cap],.int .u64 f] w (Gv w (T2 (Is (.int .i64 c)) (Is (.int .i64 e))))∧aL aF 173 #[.agg #[.bool s,.slice A n cap],.float .f64 f] w (Gv w (T2 (Is (.int .i64 c)) (Is (.int .i64 e)))):=by
 by_cases hf:fin f
 ·exact⟨_,0,fun hx l=>⟨SZ hx (aK l (by decide)) hb hf,XL hx (aK l (by decide)) hb hf⟩⟩
 ·by_cases hm:f%4503599627370496=0
  ·have hf2:=hf
   unfold fin mg at hf2
   by_cases hs:f<9223372036854775808
   ·obtain rfl:f=9218868437227405312:=by omega
    exact⟨-1,0,fun hx l=>⟨SX hx (aK l (by decide)) hb hf hm hs,XJ hx (aK l (by decide))⟩⟩
   ·obtain rfl:f=18442240474082181120:=by omega
    exact⟨1,0,fun hx l=>⟨SY hx (aK l (by decide)) hb hf hm (by omega),XK hx (aK l (by decide))⟩⟩
  ·exact⟨0,3,fun hx l=>⟨SW hx (aK l (by decide)) hb hf hm,XI hx (aK l (by decide)) hb hf hm⟩⟩
theorem ZK {n:Int}:∃(bs:List Nat) (e:Int),(∀b,b∈bs→b<256)∧∀{w:a6}{s:Bool}{A:Option aC}{k cap:Nat},Zi w s A k cap x→k≤1048576→Signs w→
  aL aF 174 #[.agg #[.bool s,.slice A k cap],.int .i64 n] w (Gv w (T2 (Is (.string (a7 bs))) (Is (.int .i64 e))))∧aL aF 175 #[.agg #[.bool s,.slice A k cap],.int .i64 n] w (Gv w (T2 (Is (.string (a7 bs))) (Is (.int .i64 e)))):=by
 by_cases hn:n<1∨40<n
 ·exact⟨[],3,by simp,fun hx l _=>⟨SO hx l hn,WF hx l hn⟩⟩
 ·obtain⟨q,rfl⟩:=Int.eq_ofNat_of_zero_le (show 0≤n by omega)
  by_cases h0:x=0
  ·exact⟨[48],0,by decide,fun hx l hS=>⟨SN hx l h0 (by omega) (by omega),WE hx l hS h0 (by omega) (by omega)⟩⟩
  ·exact⟨eF x q,0,PV,fun hx l hS=>⟨SP hx l h0 (by omega) (by omega),WG hx l hS h0 (by omega) (by omega)⟩⟩
theorem NG {w:a6}(h:Rd w A n c xs):∀x,x∈xs→x<18446744073709551616:=fun x hx=>by have:=h.wf x hx;rwa [cF] at this
theorem WS {w:a6}(hx:Rd w A n cap xs)(hn:n≤1048576):
  aL aF 120 #[.slice A n cap] w (Gv w (fun v w'=>∃A2 c2,v= .slice A2 n c2∧Rf w' A2 n c2 xs)):=by
 refine (WT (aZ _) hx hn).mono ?_
 rintro e w' ⟨v,rfl,⟨g,rfl,hg,hb⟩,he⟩
 exact⟨_,rfl,⟨_,_,rfl,hb.rf0 (NG hx) hx.len (by omega)⟩,he⟩
set_option maxHeartbeats 8000000 in
set_option maxRecDepth 20000 in
theorem xR {w:a6}{k:Int}{nb:Nat}(hx:Zi w sa Aa na ca x)(la:na≤1048576)(hy:Zi w sb Ab nb cb y)(lb:nb≤1048576)(hf64:f<18446744073709551616)(hl:Rd w C m c fs)(hm:m≤1048576)(hbs:∀b,b∈bs→b<256)(hlen:bs.length≤1048576):
    aL aF 110 #[.agg #[.int .i64 k,.bool sa,.slice Aa na ca,.bool sb,.slice Ab nb cb,.int .u64 f,.slice C m c,.string (a7 bs),.int .i64 nn]] w (Gv w (Is (.bool true))):=by
 refine bL Tryz.func110 rfl (n:=103) rfl (bq rfl) (args:= [.agg #[.int .i64 k,.bool sa,.slice Aa na ca,.bool sb,.slice Ab nb cb,.int .u64 f,.slice C m c,.string (a7 bs),.int .i64 nn]]) (bB [(0,.agg #[.int .i64 k,.bool sa,.slice Aa na ca,.bool sb,.slice Ab nb cb,.int .u64 f,.slice C m c,.string (a7 bs),.int .i64 nn])] ⟨rfl,trivial⟩ (sr (bx [.int .i64 k,.bool sa,.slice Aa na ca,.bool sb,.slice Ab nb cb,.int .u64 f,.slice C m c,.string (a7 bs),.int .i64 nn] (Ext.refl w) rfl rfl rfl fun g1 v2 hb4 ge5 e3 hw1=>(mv 1 rfl (a0 (aA (sr (pf g1 0 rfl (aQ rfl rfl (bE (fun _=>by kernel_rfl) hb4 rfl) (a0 (bM (aA ?_))))))))))))
 by_cases hk1:k=1
 · 
  refine a8 (aB rfl rfl rfl true (gD hk1) (mv 1 rfl (a0 (aM rfl (sr (pf g1 1 rfl (lo cD hb4 [.bool sa,.slice Aa na ca] rfl rfl rfl (cl (vs:= [.agg #[.bool sa,.slice Aa na ca]]) hw1 (ST (hx.ext hw1) (cC la rfl)) rfl (by kernel_rfl) fun xr8 v6 r8 e7 hw2=>?_))))))))
  obtain rfl:=r8
  refine mv 1 rfl (a0 (sr (pf g1 1 rfl (lo cD (hb4.ext e7) [.bool sa,.slice Aa na ca] rfl rfl rfl (cl (vs:= [.agg #[.bool sa,.slice Aa na ca]]) hw2 (K3 (hx.ext hw2) (cC la rfl)) rfl (by kernel_rfl) fun xr11 v9 r11 e10 hw3=>?_)))))
  obtain rfl:=r11
  refine mv 1 rfl (a0 (sr (mv 1 rfl (pu (v:= .int .u64 ((mB x:Nat):Int)) rfl (mv 1 rfl (aB rfl rfl rfl true (cZ (a:=mB x) (b:=mB x) rfl rfl) (mv 1 rfl (a0 (aJ (dZ (bJ (aI [.bool true] rfl ⟨rfl,trivial⟩ ?_))))))))))))
  exact⟨_,rfl,rfl,hw3⟩
 · 
  refine a8 (aB rfl rfl rfl false (iU hk1) (mv 1 rfl (a0 (aH rfl (aA ?_)))))
  by_cases hk2:k=2
  · 
   obtain⟨fr,er,hbo⟩:=ZL (x:=x) (y:=y)
   refine a8 (aB rfl rfl rfl true (gD hk2) (mv 1 rfl (a0 (aM rfl (sr (pf g1 1 rfl (lo cD hb4 [.bool sa,.slice Aa na ca] rfl rfl rfl (pf g1 3 rfl (lo cD hb4 [.bool sb,.slice Ab nb cb] rfl rfl rfl (eA rfl rfl (vs:= [.agg #[.bool sa,.slice Aa na ca],.agg #[.bool sb,.slice Ab nb cb]]) (by kernel_rfl) (by decide) (hbo (hx.ext hw1) (cC la rfl) (hy.ext hw1) (cC lb rfl)).1 ?_))))))))))
   rintro _ v12 ⟨xr14,rfl,r14,e13⟩
   refine eC ?_
   have hw2:=hw1.trans e13
   obtain⟨_,_,rfl,rfl,rfl⟩:=r14
   refine mv 1 rfl (pu (v:= .int .u64 fr) rfl (pu (v:= .int .i64 er) rfl (mv 2 rfl (a0 (sr (pf g1 1 rfl (lo cD (hb4.ext e13) [.bool sa,.slice Aa na ca] rfl rfl rfl (pf g1 3 rfl (lo cD (hb4.ext e13) [.bool sb,.slice Ab nb cb] rfl rfl rfl (eA rfl rfl (vs:= [.agg #[.bool sa,.slice Aa na ca],.agg #[.bool sb,.slice Ab nb cb]]) (by kernel_rfl) (by decide) (hbo (hx.ext hw2) (cC la rfl) (hy.ext hw2) (cC lb rfl)).2 ?_))))))))))
   rintro _ v16 ⟨xr18,rfl,r18,e17⟩
   refine eC ?_
   have hw3:=hw2.trans e17
   obtain⟨_,_,rfl,rfl,rfl⟩:=r18
   refine mv 1 rfl (pu (v:= .float .f64 fr) rfl (pu (v:= .int .i64 er) rfl (mv 2 rfl (a0 (sr (mv 1 rfl (pu (v:= .int .u64 fr) rfl (mv 1 rfl (aB rfl rfl rfl true (cZ (a:=fr) (b:=fr) rfl rfl) (mv 3 rfl (aB rfl rfl rfl true (gD rfl) (pu (v:= .bool true) rfl (mv 1 rfl ?_)))))))))))))
   refine a0 (aJ (dZ (bJ (aI [.bool true] rfl ⟨rfl,trivial⟩ ?_))))
   exact⟨_,rfl,rfl,hw3⟩
  · 
   refine a8 (aB rfl rfl rfl false (iU hk2) (mv 1 rfl (a0 (aH rfl (aA ?_)))))
   by_cases hk7:k=7
   · 
    refine a8 (aB rfl rfl rfl true (gD hk7) (mv 1 rfl (a0 (aM rfl (sr (pf g1 7 rfl (aQ rfl rfl (bE (fun _=>by kernel_rfl) hb4 rfl) (cl (vs:= [.string (a7 bs)]) hw1 (SQ hbs (cC hlen rfl)) rfl (by kernel_rfl) fun xr22 v20 r22 e21 hw2=>?_))))))))
    obtain⟨_,_,rfl,rfl,rfl⟩:=r22
    refine mv 1 rfl (pu (v:= .int .u64 (((iP bs).1:Nat):Int)) rfl (pu (v:= .int .i64 ((iP bs).2)) rfl (mv 2 rfl (a0 (sr (pf g1 7 rfl (aQ rfl rfl (bE (fun _=>by kernel_rfl) (hb4.ext e21) rfl) (cl (vs:= [.string (a7 bs)]) hw2 (WY hbs (cC hlen rfl)) rfl (by kernel_rfl) fun xr26 v24 r26 e25 hw3=>?_))))))))
    obtain⟨_,_,rfl,rfl,rfl⟩:=r26
    refine mv 1 rfl (pu (v:= .float .f64 ((iP bs).1)) rfl (pu (v:= .int .i64 ((iP bs).2)) rfl (mv 2 rfl (a0 (sr (mv 1 rfl (pu (v:= .int .u64 (((iP bs).1:Nat):Int)) rfl (mv 1 rfl (aB rfl rfl rfl true (cZ (a:=(iP bs).1) (b:=(iP bs).1) rfl rfl) (mv 3 rfl (aB rfl rfl rfl true (gD rfl) (pu (v:= .bool true) rfl (mv 1 rfl ?_)))))))))))))
    refine a0 (aJ (dZ (bJ (aI [.bool true] rfl ⟨rfl,trivial⟩ ?_))))
    exact⟨_,rfl,rfl,hw3⟩
   · 
    refine a8 (aB rfl rfl rfl false (iU hk7) (mv 1 rfl (a0 (aH rfl (aN (cE (aE (sr (pf g1 6 rfl (aQ rfl rfl (bE (fun _=>by kernel_rfl) hb4 rfl) (cl (vs:= [.slice C m c]) hw1 (SI (hl.ext hw1) (cC hm rfl)) rfl (by kernel_rfl) fun xr30 v28 r30 e29 hw2=>?_)))))))))))
    obtain⟨_,_,rfl,rfl,rfl⟩:=r30
    refine mv 1 rfl (pu (v:= .int .u64 ((kI fs:Nat):Int)) rfl (pu (v:= .int .i64 (lY fs)) rfl (mv 2 rfl (a0 (sr (pf g1 6 rfl (aQ rfl rfl (bE (fun _=>by kernel_rfl) (hb4.ext e29) rfl) (cl (vs:= [.slice C m c]) hw2 (WS (hl.ext hw2) hm) rfl (by kernel_rfl) fun xr34 v32 r34 e33 hw3=>?_))))))))
    obtain⟨Af35,cf35,rfl,rf35⟩:=r34
    refine cl (vs:= [.slice Af35 m cf35]) hw3 (X5 rf35 (cC hm rfl)) rfl (by kernel_rfl) fun xr38 v36 r38 e37 hw4=>?_
    obtain⟨_,_,rfl,rfl,rfl⟩:=r38
    refine mv 1 rfl (pu (v:= .float .f64 (kI fs)) rfl (pu (v:= .int .i64 (lY fs)) rfl (mv 2 rfl (a0 (sr (mv 1 rfl (pu (v:= .int .u64 ((kI fs:Nat):Int)) rfl (mv 1 rfl (aB rfl rfl rfl true (cZ (a:=kI fs) (b:=kI fs) rfl rfl) (mv 3 rfl (aB rfl rfl rfl true (gD rfl) (pu (v:= .bool true) rfl (mv 1 rfl ?_)))))))))))))
    refine a0 (aJ (aI [.bool true] rfl ⟨rfl,trivial⟩ ?_))
    exact⟨_,rfl,rfl,hw4⟩
set_option maxHeartbeats 8000000 in
set_option maxRecDepth 20000 in
theorem xU {w:a6}{k:Int}{nb:Nat}(hx:Zi w sa Aa na ca x)(la:na≤1048576)(hy:Zi w sb Ab nb cb y)(lb:nb≤1048576)(hf64:f<18446744073709551616)(hl:Rd w C m c fs)(hm:m≤1048576)(hbs:∀b,b∈bs→b<256)(hlen:bs.length≤1048576)(hS:Signs w):
    aL aF 111 #[.agg #[.int .i64 k,.bool sa,.slice Aa na ca,.bool sb,.slice Ab nb cb,.int .u64 f,.slice C m c,.string (a7 bs),.int .i64 nn]] w (Gv w (Is (.bool true))):=by
 refine bL Tryz.func111 rfl (n:=125) rfl (bq rfl) (args:= [.agg #[.int .i64 k,.bool sa,.slice Aa na ca,.bool sb,.slice Ab nb cb,.int .u64 f,.slice C m c,.string (a7 bs),.int .i64 nn]]) (bB [(0,.agg #[.int .i64 k,.bool sa,.slice Aa na ca,.bool sb,.slice Ab nb cb,.int .u64 f,.slice C m c,.string (a7 bs),.int .i64 nn])] ⟨rfl,trivial⟩ (sr (bx [.int .i64 k,.bool sa,.slice Aa na ca,.bool sb,.slice Ab nb cb,.int .u64 f,.slice C m c,.string (a7 bs),.int .i64 nn] (Ext.refl w) rfl rfl rfl fun g1 v2 hb4 ge5 e3 hw1=>(mv 1 rfl (a0 (sr (pf g1 5 rfl (aQ rfl rfl (bE (fun _=>by kernel_rfl) hb4 rfl) (pu (v:= .float .f64 f) rfl (mv 1 rfl (a0 (aA (aA ?_)))))))))))))
 refine a8 (pf g1 0 rfl (aQ rfl rfl (bE (fun _=>by kernel_rfl) hb4 rfl) (a0 (bM (aA ?_)))))
 by_cases hk3:k=3
 · 
  obtain⟨zr,er,hlz,hbo⟩:=ZI hf64
  refine a8 (aB rfl rfl rfl true (gD hk3) (mv 1 rfl (a0 (aM rfl (sr (pf g1 5 rfl (aQ rfl rfl (bE (fun _=>by kernel_rfl) hb4 rfl) (eA rfl rfl (vs:= [.int .u64 f]) (by kernel_rfl) (by decide) (hbo (w:=v2)).1 ?_))))))))
  rintro _ v6 ⟨xr8,rfl,r8,e7⟩
  refine eC ?_
  have hw2:=hw1.trans e7
  obtain⟨_,_,rfl,⟨s10,A10,n10,c10,rfl,z10⟩,rfl⟩:=r8
  refine mv 1 rfl (pu (v:= .agg #[.bool s10,.slice A10 n10 c10]) rfl (pu (v:= .int .i64 er) rfl (mH [F0,S0] hw2 (hb4.ext e7).lt (fun _=>by kernel_rfl) rfl fun g11 v12 hb14 ge15 q16 e13 hw3=>(so cD hb14 [.bool s10,.slice A10 n10 c10] hw3 ge15 rfl rfl rfl rfl fun v17 hb19 u20 hw4=>(mv 1 rfl (a0 (sr (mv 1 rfl (eA rfl rfl (vs:= [.float .f64 f]) (by kernel_rfl) (by decide) (hbo (w:=v17)).2 ?_)))))))))
  rintro _ v22 ⟨xr24,rfl,r24,e23⟩
  refine eC ?_
  have hw5:=hw4.trans e23
  obtain⟨_,_,rfl,⟨s26,A26,n26,c26,rfl,z26⟩,rfl⟩:=r24
  refine mv 1 rfl (pu (v:= .agg #[.bool s26,.slice A26 n26 c26]) rfl (pu (v:= .int .i64 er) rfl (mH [F0,S0] hw5 (hb19.ext e23).lt (fun _=>by kernel_rfl) rfl fun g27 v28 hb30 ge31 q32 e29 hw6=>(so cD hb30 [.bool s26,.slice A26 n26 c26] hw6 ge31 rfl rfl rfl rfl fun v33 hb35 u36 hw7=>(mv 1 rfl (a0 (sr (lo cD hb35 [.bool s26,.slice A26 n26 c26] rfl rfl rfl (lo cD ((hb19.ext (e23.trans e29)).updN u36 (by omega)) [.bool s10,.slice A10 n10 c10] rfl rfl rfl (cl (vs:= [.agg #[.bool s26,.slice A26 n26 c26],.agg #[.bool s10,.slice A10 n10 c10]]) hw7 (JY ((z26.ext e29).updT hb30 u36) (z26.le (cC hlz rfl)) ((((z10.ext e13).updT hb14 u20).ext (e23.trans e29)).updT hb30 u36) (z10.le (cC hlz rfl))) rfl (by kernel_rfl) fun xr40 v38 r40 e39 hw8=>?_))))))))))
  obtain rfl:=r40
  refine mv 3 rfl (aB rfl rfl rfl true (gD rfl) (pu (v:= .bool true) rfl (mv 1 rfl (a0 (aJ (dZ (bJ (aI [.bool true] rfl ⟨rfl,trivial⟩ ?_))))))))
  exact⟨_,rfl,rfl,hw8⟩
 · 
  refine a8 (aB rfl rfl rfl false (iU hk3) (mv 1 rfl (a0 (aH rfl (aA ?_)))))
  by_cases hk4:k=4
  · 
   obtain⟨zr,kr,er,hlz,hbo⟩:=ZJ hf64
   refine a8 (aB rfl rfl rfl true (gD hk4) (mv 1 rfl (a0 (aM rfl (sr (pf g1 5 rfl (aQ rfl rfl (bE (fun _=>by kernel_rfl) hb4 rfl) (eA rfl rfl (vs:= [.int .u64 f]) (by kernel_rfl) (by decide) (hbo (w:=v2)).1 ?_))))))))
   rintro _ v41 ⟨xr43,rfl,r43,e42⟩
   refine eC ?_
   have hw2:=hw1.trans e42
   obtain⟨_,_,_,rfl,⟨s45,A45,n45,c45,rfl,z45⟩,rfl,rfl⟩:=r43
   refine mv 1 rfl (pu (v:= .agg #[.bool s45,.slice A45 n45 c45]) rfl (pu (v:= .int .i64 kr) rfl (pu (v:= .int .i64 er) rfl (mH [F0,S0] hw2 (hb4.ext e42).lt (fun _=>by kernel_rfl) rfl fun g46 v47 hb49 ge50 q51 e48 hw3=>(so cD hb49 [.bool s45,.slice A45 n45 c45] hw3 ge50 rfl rfl rfl rfl fun v52 hb54 u55 hw4=>(mv 2 rfl (a0 (sr (mv 1 rfl (eA rfl rfl (vs:= [.float .f64 f]) (by kernel_rfl) (by decide) (hbo (w:=v52)).2 ?_))))))))))
   rintro _ v57 ⟨xr59,rfl,r59,e58⟩
   refine eC ?_
   have hw5:=hw4.trans e58
   obtain⟨_,_,_,rfl,⟨s61,A61,n61,c61,rfl,z61⟩,rfl,rfl⟩:=r59
   refine mv 1 rfl (pu (v:= .agg #[.bool s61,.slice A61 n61 c61]) rfl (pu (v:= .int .i64 kr) rfl (pu (v:= .int .i64 er) rfl (mH [F0,S0] hw5 (hb54.ext e58).lt (fun _=>by kernel_rfl) rfl fun g62 v63 hb65 ge66 q67 e64 hw6=>(so cD hb65 [.bool s61,.slice A61 n61 c61] hw6 ge66 rfl rfl rfl rfl fun v68 hb70 u71 hw7=>(mv 2 rfl (a0 (sr (lo cD hb70 [.bool s61,.slice A61 n61 c61] rfl rfl rfl (lo cD ((hb54.ext (e58.trans e64)).updN u71 (by omega)) [.bool s45,.slice A45 n45 c45] rfl rfl rfl (cl (vs:= [.agg #[.bool s61,.slice A61 n61 c61],.agg #[.bool s45,.slice A45 n45 c45]]) hw7 (JY ((z61.ext e64).updT hb65 u71) (z61.le (cC hlz rfl)) ((((z45.ext e48).updT hb49 u55).ext (e58.trans e64)).updT hb65 u71) (z45.le (cC hlz rfl))) rfl (by kernel_rfl) fun xr75 v73 r75 bN hw8=>?_)))))))))))
   obtain rfl:=r75
   refine mv 3 rfl (aB rfl rfl rfl true (gD rfl) (pu (v:= .bool true) rfl (mv 3 rfl (aB rfl rfl rfl true (gD rfl) (pu (v:= .bool true) rfl (mv 1 rfl (a0 (aJ (dZ (bJ (aI [.bool true] rfl ⟨rfl,trivial⟩ ?_)))))))))))
   exact⟨_,rfl,rfl,hw8⟩
  · 
   refine a8 (aB rfl rfl rfl false (iU hk4) (mv 1 rfl (a0 (aH rfl (aA ?_)))))
   by_cases hk5:k=5
   · 
    obtain⟨cr,er,hbo⟩:=ZM (x:=x) hf64
    refine a8 (aB rfl rfl rfl true (gD hk5) (mv 1 rfl (a0 (aM rfl (sr (pf g1 1 rfl (lo cD hb4 [.bool sa,.slice Aa na ca] rfl rfl rfl (pf g1 5 rfl (aQ rfl rfl (bE (fun _=>by kernel_rfl) hb4 rfl) (eA rfl rfl (vs:= [.agg #[.bool sa,.slice Aa na ca],.int .u64 f]) (by kernel_rfl) (by decide) (hbo (hx.ext hw1) (cC la rfl)).1 ?_))))))))))
    rintro _ v76 ⟨xr78,rfl,r78,e77⟩
    refine eC ?_
    have hw2:=hw1.trans e77
    obtain⟨_,_,rfl,rfl,rfl⟩:=r78
    refine mv 1 rfl (pu (v:= .int .i64 cr) rfl (pu (v:= .int .i64 er) rfl (mv 2 rfl (a0 (sr (pf g1 1 rfl (lo cD (hb4.ext e77) [.bool sa,.slice Aa na ca] rfl rfl rfl (mv 1 rfl (eA rfl rfl (vs:= [.agg #[.bool sa,.slice Aa na ca],.float .f64 f]) (by kernel_rfl) (by decide) (hbo (hx.ext hw2) (cC la rfl)).2 ?_)))))))))
    rintro _ v80 ⟨xr82,rfl,r82,e81⟩
    refine eC ?_
    have hw3:=hw2.trans e81
    obtain⟨_,_,rfl,rfl,rfl⟩:=r82
    refine mv 1 rfl (pu (v:= .int .i64 cr) rfl (pu (v:= .int .i64 er) rfl (mv 2 rfl (a0 (sr (mv 2 rfl (aB rfl rfl rfl true (gD rfl) (mv 3 rfl (aB rfl rfl rfl true (gD rfl) (pu (v:= .bool true) rfl (mv 1 rfl (a0 (aJ ?_)))))))))))))
    refine dZ (bJ (aI [.bool true] rfl ⟨rfl,trivial⟩ ?_))
    exact⟨_,rfl,rfl,hw3⟩
   · 
    refine a8 (aB rfl rfl rfl false (iU hk5) (mv 1 rfl (a0 (aH rfl (aN (cE (aE (aA ?_))))))))
    obtain⟨ss,er,hss,hbo⟩:=ZK (x:=x) (n:=nn)
    refine a8 (pf g1 1 rfl (lo cD hb4 [.bool sa,.slice Aa na ca] rfl rfl rfl (pf g1 8 rfl (aQ rfl rfl (bE (fun _=>by kernel_rfl) hb4 rfl) (eA rfl rfl (vs:= [.agg #[.bool sa,.slice Aa na ca],.int .i64 nn]) (by kernel_rfl) (by decide) (hbo (hx.ext hw1) (cC la rfl) (hS.ext hw1)).1 ?_)))))
    rintro _ v84 ⟨xr86,rfl,r86,e85⟩
    refine eC ?_
    have hw2:=hw1.trans e85
    obtain⟨_,_,rfl,rfl,rfl⟩:=r86
    refine mv 1 rfl (pu (v:= .string (a7 ss)) rfl (pu (v:= .int .i64 er) rfl (mv 2 rfl (a0 (sr (pf g1 1 rfl (lo cD (hb4.ext e85) [.bool sa,.slice Aa na ca] rfl rfl rfl (pf g1 8 rfl (aQ rfl rfl (bE (fun _=>by kernel_rfl) (hb4.ext e85) rfl) (eA rfl rfl (vs:= [.agg #[.bool sa,.slice Aa na ca],.int .i64 nn]) (by kernel_rfl) (by decide) (hbo (hx.ext hw2) (cC la rfl) (hS.ext hw2)).2 ?_))))))))))
    rintro _ v88 ⟨xr90,rfl,r90,e89⟩
    refine eC ?_
    have hw3:=hw2.trans e89
    obtain⟨_,_,rfl,rfl,rfl⟩:=r90
    refine mv 1 rfl (pu (v:= .string (a7 ss)) rfl (pu (v:= .int .i64 er) rfl (mv 2 rfl (a0 (sr (mv 2 rfl (fP (a:=ss) (b:=ss) rfl rfl rfl hss true (mY (rfl)) (mv 3 rfl (aB rfl rfl rfl true (gD rfl) (pu (v:= .bool true) rfl (mv 1 rfl (a0 (aJ ?_)))))) (hb:=hss))))))))
    refine aI [.bool true] rfl ⟨rfl,trivial⟩ ?_
    exact⟨_,rfl,rfl,hw3⟩
set_option maxHeartbeats 8000000 in
set_option maxRecDepth 20000 in
theorem WH {w:a6}{k:Int}{nb:Nat}(hx:Zi w sa Aa na ca x)(la:na≤1048576)(hy:Zi w sb Ab nb cb y)(lb:nb≤1048576)(hf64:f<18446744073709551616)(hl:Rd w C m c fs)(hm:m≤1048576)(hbs:∀b,b∈bs→b<256)(hlen:bs.length≤1048576)(hS:Signs w):
    aL aF 30 #[.agg #[.int .i64 k,.bool sa,.slice Aa na ca,.bool sb,.slice Ab nb cb,.int .u64 f,.slice C m c,.string (a7 bs),.int .i64 nn]] w (Gv w (Is (.bool true))):=by
 refine bL Tryz.func30 rfl (n:=19) rfl (bq rfl) (args:= [.agg #[.int .i64 k,.bool sa,.slice Aa na ca,.bool sb,.slice Ab nb cb,.int .u64 f,.slice C m c,.string (a7 bs),.int .i64 nn]]) (bB [(0,.agg #[.int .i64 k,.bool sa,.slice Aa na ca,.bool sb,.slice Ab nb cb,.int .u64 f,.slice C m c,.string (a7 bs),.int .i64 nn])] ⟨rfl,trivial⟩ (sr (bx [.int .i64 k,.bool sa,.slice Aa na ca,.bool sb,.slice Ab nb cb,.int .u64 f,.slice C m c,.string (a7 bs),.int .i64 nn] (Ext.refl w) rfl rfl rfl fun g1 v2 hb4 ge5 e3 hw1=>(mv 1 rfl (a0 (aA (sr (pf g1 0 rfl (aQ rfl rfl (bE (fun _=>by kernel_rfl) hb4 rfl) (a0 (bM (aA (aA ?_)))))))))))))
 by_cases hk1:k=1
 · 
  refine a8 (aB rfl rfl rfl true (gD hk1) (mv 1 rfl (a0 (aM rfl (aN (aE (aM rfl (sr (lo nK hb4 [.int .i64 k,.bool sa,.slice Aa na ca,.bool sb,.slice Ab nb cb,.int .u64 f,.slice C m c,.string (a7 bs),.int .i64 nn] rfl rfl rfl (cl (vs:= [.agg #[.int .i64 k,.bool sa,.slice Aa na ca,.bool sb,.slice Ab nb cb,.int .u64 f,.slice C m c,.string (a7 bs),.int .i64 nn]]) hw1 (xR (hx.ext hw1) la (hy.ext hw1) lb hf64 (hl.ext hw1) hm hbs hlen) rfl (by kernel_rfl) fun xr8 v6 r8 e7 hw2=>?_))))))))))
  obtain rfl:=r8
  refine mv 1 rfl (a0 (aJ (dZ (bJ (aI [.bool true] rfl ⟨rfl,trivial⟩ ?_)))))
  exact⟨_,rfl,rfl,hw2⟩
 · 
  refine a8 (aB rfl rfl rfl false (iU hk1) (mv 1 rfl (a0 (aH rfl (aA ?_)))))
  by_cases hk2:k=2
  · 
   refine a8 (aB rfl rfl rfl true (gD hk2) (mv 1 rfl (a0 (aM rfl (aN (aE (aM rfl (sr (lo nK hb4 [.int .i64 k,.bool sa,.slice Aa na ca,.bool sb,.slice Ab nb cb,.int .u64 f,.slice C m c,.string (a7 bs),.int .i64 nn] rfl rfl rfl (cl (vs:= [.agg #[.int .i64 k,.bool sa,.slice Aa na ca,.bool sb,.slice Ab nb cb,.int .u64 f,.slice C m c,.string (a7 bs),.int .i64 nn]]) hw1 (xR (hx.ext hw1) la (hy.ext hw1) lb hf64 (hl.ext hw1) hm hbs hlen) rfl (by kernel_rfl) fun xr11 v9 r11 e10 hw2=>?_))))))))))
   obtain rfl:=r11
   refine mv 1 rfl (a0 (aJ (dZ (bJ (aI [.bool true] rfl ⟨rfl,trivial⟩ ?_)))))
   exact⟨_,rfl,rfl,hw2⟩
  · 
   refine a8 (aB rfl rfl rfl false (iU hk2) (mv 1 rfl (a0 (aH rfl (aA ?_)))))
   by_cases hk7:k=7
   · 
    refine a8 (aB rfl rfl rfl true (gD hk7) (mv 1 rfl (a0 (aM rfl (aN (aE (aM rfl (sr (lo nK hb4 [.int .i64 k,.bool sa,.slice Aa na ca,.bool sb,.slice Ab nb cb,.int .u64 f,.slice C m c,.string (a7 bs),.int .i64 nn] rfl rfl rfl (cl (vs:= [.agg #[.int .i64 k,.bool sa,.slice Aa na ca,.bool sb,.slice Ab nb cb,.int .u64 f,.slice C m c,.string (a7 bs),.int .i64 nn]]) hw1 (xR (hx.ext hw1) la (hy.ext hw1) lb hf64 (hl.ext hw1) hm hbs hlen) rfl (by kernel_rfl) fun xr14 v12 r14 e13 hw2=>?_))))))))))
    obtain rfl:=r14
    refine mv 1 rfl (a0 (aJ (dZ (bJ (aI [.bool true] rfl ⟨rfl,trivial⟩ ?_)))))
    exact⟨_,rfl,rfl,hw2⟩
   · 
    refine a8 (aB rfl rfl rfl false (iU hk7) (mv 1 rfl (a0 (aH rfl ?_))))
    by_cases hk8:k=8
    · 
     refine a8 (aB rfl rfl rfl true (gD hk8) (mv 1 rfl (a0 (aM rfl (sr (lo nK hb4 [.int .i64 k,.bool sa,.slice Aa na ca,.bool sb,.slice Ab nb cb,.int .u64 f,.slice C m c,.string (a7 bs),.int .i64 nn] rfl rfl rfl (cl (vs:= [.agg #[.int .i64 k,.bool sa,.slice Aa na ca,.bool sb,.slice Ab nb cb,.int .u64 f,.slice C m c,.string (a7 bs),.int .i64 nn]]) hw1 (xR (hx.ext hw1) la (hy.ext hw1) lb hf64 (hl.ext hw1) hm hbs hlen) rfl (by kernel_rfl) fun xr17 v15 r17 e16 hw2=>?_)))))))
     obtain rfl:=r17
     refine mv 1 rfl (a0 (aJ (dZ (bJ (aI [.bool true] rfl ⟨rfl,trivial⟩ ?_)))))
     exact⟨_,rfl,rfl,hw2⟩
    · 
     refine a8 (aB rfl rfl rfl false (iU hk8) (mv 1 rfl (a0 (aH rfl (aA (aA ?_))))))
     by_cases hk3:k=3
     · 
      refine a8 (aB rfl rfl rfl true (gD hk3) (mv 1 rfl (a0 (aM rfl (aN (aE (aM rfl (sr (lo nK hb4 [.int .i64 k,.bool sa,.slice Aa na ca,.bool sb,.slice Ab nb cb,.int .u64 f,.slice C m c,.string (a7 bs),.int .i64 nn] rfl rfl rfl (cl (vs:= [.agg #[.int .i64 k,.bool sa,.slice Aa na ca,.bool sb,.slice Ab nb cb,.int .u64 f,.slice C m c,.string (a7 bs),.int .i64 nn]]) hw1 (xU (hx.ext hw1) la (hy.ext hw1) lb hf64 (hl.ext hw1) hm hbs hlen (hS.ext hw1)) rfl (by kernel_rfl) fun xr20 v18 r20 e19 hw2=>?_))))))))))
      obtain rfl:=r20
      refine mv 1 rfl (a0 (aJ (dZ (bJ (aI [.bool true] rfl ⟨rfl,trivial⟩ ?_)))))
      exact⟨_,rfl,rfl,hw2⟩
     · 
      refine a8 (aB rfl rfl rfl false (iU hk3) (mv 1 rfl (a0 (aH rfl (aA ?_)))))
      by_cases hk4:k=4
      · 
       refine a8 (aB rfl rfl rfl true (gD hk4) (mv 1 rfl (a0 (aM rfl (aN (aE (aM rfl (sr (lo nK hb4 [.int .i64 k,.bool sa,.slice Aa na ca,.bool sb,.slice Ab nb cb,.int .u64 f,.slice C m c,.string (a7 bs),.int .i64 nn] rfl rfl rfl (cl (vs:= [.agg #[.int .i64 k,.bool sa,.slice Aa na ca,.bool sb,.slice Ab nb cb,.int .u64 f,.slice C m c,.string (a7 bs),.int .i64 nn]]) hw1 (xU (hx.ext hw1) la (hy.ext hw1) lb hf64 (hl.ext hw1) hm hbs hlen (hS.ext hw1)) rfl (by kernel_rfl) fun xr23 v21 r23 e22 hw2=>?_))))))))))
       obtain rfl:=r23
       refine mv 1 rfl (a0 (aJ (dZ (bJ (aI [.bool true] rfl ⟨rfl,trivial⟩ ?_)))))
       exact⟨_,rfl,rfl,hw2⟩
      · 
       refine a8 (aB rfl rfl rfl false (iU hk4) (mv 1 rfl (a0 (aH rfl (aA ?_)))))
       by_cases hk5:k=5
       · 
        refine a8 (aB rfl rfl rfl true (gD hk5) (mv 1 rfl (a0 (aM rfl (aN (aE (aM rfl (sr (lo nK hb4 [.int .i64 k,.bool sa,.slice Aa na ca,.bool sb,.slice Ab nb cb,.int .u64 f,.slice C m c,.string (a7 bs),.int .i64 nn] rfl rfl rfl (cl (vs:= [.agg #[.int .i64 k,.bool sa,.slice Aa na ca,.bool sb,.slice Ab nb cb,.int .u64 f,.slice C m c,.string (a7 bs),.int .i64 nn]]) hw1 (xU (hx.ext hw1) la (hy.ext hw1) lb hf64 (hl.ext hw1) hm hbs hlen (hS.ext hw1)) rfl (by kernel_rfl) fun xr26 v24 r26 e25 hw2=>?_))))))))))
        obtain rfl:=r26
        refine mv 1 rfl (a0 (aJ (dZ (bJ (aI [.bool true] rfl ⟨rfl,trivial⟩ ?_)))))
        exact⟨_,rfl,rfl,hw2⟩
       · 
        refine a8 (aB rfl rfl rfl false (iU hk5) (mv 1 rfl (a0 (aH rfl ?_))))
        by_cases hk6:k=6
        · 
         refine a8 (aB rfl rfl rfl true (gD hk6) (mv 1 rfl (a0 (aM rfl (sr (lo nK hb4 [.int .i64 k,.bool sa,.slice Aa na ca,.bool sb,.slice Ab nb cb,.int .u64 f,.slice C m c,.string (a7 bs),.int .i64 nn] rfl rfl rfl (cl (vs:= [.agg #[.int .i64 k,.bool sa,.slice Aa na ca,.bool sb,.slice Ab nb cb,.int .u64 f,.slice C m c,.string (a7 bs),.int .i64 nn]]) hw1 (xU (hx.ext hw1) la (hy.ext hw1) lb hf64 (hl.ext hw1) hm hbs hlen (hS.ext hw1)) rfl (by kernel_rfl) fun xr29 v27 r29 e28 hw2=>?_)))))))
         obtain rfl:=r29
         refine mv 1 rfl (a0 (aJ (dZ (bJ (aI [.bool true] rfl ⟨rfl,trivial⟩ ?_)))))
         exact⟨_,rfl,rfl,hw2⟩
        · 
         refine a8 (aB rfl rfl rfl false (iU hk6) (mv 1 rfl (a0 (aH rfl (aN (cE (aE (sr (mv 1 rfl (a0 (aJ (aI [.bool true] rfl ⟨rfl,trivial⟩ ?_))))))))))))
         exact⟨_,rfl,rfl,hw1⟩
set_option maxHeartbeats 8000000 in
set_option maxRecDepth 20000 in
theorem VF {w:a6}(ho:Al 9 sY w A n)(hn:n≤1048576)(hS:Signs w):
    aL aF 6 #[.slice A n cap] w (Gv w (Is (.bool true))):=by
 refine bL Tryz.func6 rfl (n:=18) rfl (bq rfl) (args:= [.slice A n cap]) (bB [(0,.slice A n cap)] ⟨rfl,trivial⟩ (sr (mv 1 rfl (a0 (aA (sr (eA rfl rfl (vs:= []) (by kernel_rfl) (by decide) WV ?_)))))))
 rintro _ v1 ⟨xr3,rfl,r3,e2⟩
 refine eC ?_
 have hw1:=(Ext.refl w).trans e2
 obtain rfl:=r3
 refine pu (v:= .bool false) rfl (a0 (aH rfl (aN (aE (aA (sr (mv 1 rfl (a0 (bM ?_)))))))))
 refine dS (T:=a6×Nat)
  (fun⟨wr,i⟩=> [(0,.slice A n cap),(3,.int .i64 i)])
  (fun⟨wr,i⟩=>wr)
  (fun⟨wr,i⟩=>(Ext w wr)∧(i≤n))
  (fun⟨wr,i⟩=>n-i)
  (⟨v1,0⟩:a6×Nat) ⟨hw1,(bZ _)⟩ rfl ⟨rfl,rfl,trivial⟩ ?_
 rintro⟨wr,i⟩ ⟨hw1,hile⟩
 refine cM [(0,.slice A n cap),(3,.int .i64 i)] wr rfl ⟨rfl,rfl,trivial⟩ (aA (aA ?_))
 by_cases hin:i<n
 · 
  refine a8 (mv 2 rfl (pu (v:= .int .i64 n) rfl (aB rfl rfl rfl true (dV (a:=i) (b:=n) rfl rfl) (a0 (aM rfl (aN (aE (aA (bM (sr (mv 2 rfl ?_)))))))))))
  obtain⟨p4,k4,sa4,Aa4,na4,ca4,x4,sb4,Ab4,nb4,cb4,y4,f4,C4,m4,c4,fs4,bs4,nn4,hp4,ld4,hop4⟩:=ho.at9 (i:=i) (by omega)
  refine bX rfl rfl rfl Tryz.underlying68 nK.size i rfl p4 hp4 (aQ rfl rfl (ld4 _ hw1) (cl (vs:= [.agg #[.int .i64 k4,.bool sa4,.slice Aa4 na4 ca4,.bool sb4,.slice Ab4 nb4 cb4,.int .u64 f4,.slice C4 m4 c4,.string (a7 bs4),.int .i64 nn4]]) hw1 (WH (hop4.1.ext hw1) hop4.2.1 (hop4.2.2.1.ext hw1) hop4.2.2.2.1 hop4.2.2.2.2.1 (hop4.2.2.2.2.2.1.ext hw1) hop4.2.2.2.2.2.2.1 hop4.2.2.2.2.2.2.2.1 hop4.2.2.2.2.2.2.2.2 (hS.ext hw1)) rfl (by kernel_rfl) fun xr7 v5 r7 e6 hw2=>?_))
  obtain rfl:=r7
  refine pu (v:= .bool false) rfl (a0 (aH rfl (aN (cE (aE (a8 (mv 1 rfl (aD rfl rfl rfl ((i+1:Nat):Int) (bF (a:=i) (b:=1) rfl rfl) (mv 1 rfl (aR (cU (⟨v5,i+1⟩:a6×Nat) ⟨hw2,(by omega)⟩ (show n-(i+1)<n-i by omega) rfl ⟨rfl,rfl,trivial⟩)))))))))))
 · 
  refine a8 (mv 2 rfl (pu (v:= .int .i64 n) rfl (aB rfl rfl rfl false (dP (a:=i) (b:=n) rfl rfl) (a0 (aH rfl (dB (d7 (d9 (dA (aE (sr (mv 1 rfl (aR ?_)))))))))))))
  refine aE (aJ (aI [.bool true] rfl ⟨rfl,trivial⟩ ?_))
  exact⟨_,rfl,rfl,hw1⟩
theorem VG {w:a6}(ho:Al 9 sY w A n)(hn:n≤1048576)(hS:Signs w):aL aF 6 #[.slice A n cap] w (zD true w):=(VF ho hn hS).mono fun e w' h=>VU _ _ h
end
end Go.Proofs.YtkepckmdjncehaaGreatDoor
