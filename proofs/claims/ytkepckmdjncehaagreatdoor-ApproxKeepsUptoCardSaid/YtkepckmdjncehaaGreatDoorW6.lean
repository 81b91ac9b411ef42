/- Parts R7x, R7y, Strg, Ats, Atw, R7z, R7w, Apd, Lw7, Lw7u, Lw7v, Lw7x, Book, joined. -/
import Derived.Test.YtkepckmdjncehaaGreatDoorW5

open Go renaming Addr → aC, Calls → aO, Operand → cS, Program → cD, TypeId → aT, Value → aH, World → a6
open Go.Builtin renaming append_ → rC
open Classical renaming byContradiction → EL
open List renaming append_nil → mJ, cons_append → j8, getD_eq_getElem?_getD → bC, getElem?_eq_getElem → cJ, length_append → cL, length_cons → cO, length_drop → cV, length_take → bJ, map_cons → iN, map_nil → j7, mem_append → nI, mem_map → oJ, mem_of_mem_drop → gK, mem_range → jJ, mem_singleton → jI, replicate → bP
open Nat renaming add_mul → dX, add_sub_cancel → kI, add_zero → dN, le_refl → b8, le_trans → aG, lt_of_lt_of_le → dF, mod_eq_of_lt → fG, mod_lt → eO, mul_assoc → bH, mul_comm → bY, mul_div_cancel → nG, mul_le_mul_right → eA, mul_one → cI, pow_add → bX, pow_pos → eP, pow_succ → cB, zero_le → bW
open Option.some renaming inj → l4
open Or renaming inl → cE, inr → bR
open Go.Sem renaming run_bind → cK
open Go.Proofs.Tryz renaming prog → aF
open Go.Value renaming int → bV
namespace Go.Proofs.YtkepckmdjncehaaGreatDoor
variable {A A' Aa Ab B C:Option aC}{D a b bs fs l s xs:List Nat}{N X ac an base bh c c' ca cap cb f g i j k lb m n na p q:Nat}{P:cD}{T T' t:aT}{dn mo r s0 sa sb:Bool}{news vs:List aH}{nn x y:Int}
section
open Go.RowKit
theorem V7 (h:Digs l):Digs (mR l)∧mR l≠ []∧cG 10 ((mR l).map dv)=cG 10 (l.map dv)∧(mR l).length≤l.length+1:=by
 unfold mR
 by_cases h0:l= []
 ·subst h0;rw [if_pos rfl]
  exact⟨fun c hc=>by rw [jI] at hc;omega,by decide,by decide,by decide⟩
 ·rw [if_neg h0];exact⟨h,h0,rfl,by omega⟩
theorem UT {w:a6}{dg pw ex:List Nat}(he:ex=mR pw)(hbs:∀b,b∈bs→b<256)(hlen:bs.length≤1073741824)(h:fO bs=some (dg,bh,dn,pw)):
  aO aF 209 #[.string (a8 bs)] w (Gv w (Is (.tuple #[.bool (aZ bs),.string (a8 dg),.int .i64 bh,.bool dn,.string (a8 ex),.bool true]))):=
 (IL hbs hlen).mono fun e w' ⟨v,he',hv,hx⟩=>⟨v,he',by unfold CutR7 at hv;rw [h] at hv;subst he;exact hv,hx⟩
theorem UU {w:a6}(hbs:∀b,b∈bs→b<256)(hlen:bs.length≤1073741824)(h:fO bs=none):
  aO aF 209 #[.string (a8 bs)] w (fun e w'=>∃(ng:Bool) (dg:List Nat) (bh:Nat) (dn:Bool) (ex:List Nat),True∧Gv w (Is (.tuple #[.bool ng,.string (a8 dg),.int .i64 bh,.bool dn,.string (a8 ex),.bool false])) e w'):=
 (IL hbs hlen).mono fun e w' ⟨v,he,hv,hx⟩=>by
  unfold CutR7 at hv;rw [h] at hv
  obtain⟨a,b,c,d,e',rfl⟩:=hv
  exact⟨a,b,c,d,e',trivial,_,he,rfl,hx⟩
theorem tC {w:a6}{b:Nat}(hb:b≤w.heap.size)(hX:cG 10 (bs.map dv)=X)(hbs:∀b,b∈bs→b<256)(hg:mG 10 bs)(hlen:bs.length≤17179869184:=by omega):aO aF 192 #[.string (a8 bs)] w (Gv w (T2 (WR b X) (Is (.int .i64 0)))):=by
 subst hX
 exact (TJ hbs hlen hg).mono (Gv.imp (T2.imp (WR.imp hb) Is.imp))
set_option maxHeartbeats 8000000 in
theorem UP {w:a6}(hbs:∀b,b∈bs→b<256)(hlen:bs.length≤1099511627776):
    aO aF 170 #[.string (a8 bs)] w (Gv w (T2 (Is (.int .u64 (((jC bs).1:Nat):Int))) (Is (.int .i64 (jC bs).2)))):=by
 refine bK Tryz.func170 rfl (n:=71) rfl (bq rfl) (args:= [.string (a8 bs)]) (bE [(0,.string (a8 bs))] ⟨rfl,trivial⟩ (sr (mv 2 rfl (a0 (aA (aA ?_))))))
 by_cases hlong:bs.length>4096
 · 
  refine a7 (mv 1 rfl (bD rfl rfl (v:= .int .i64 (((a8 bs).size:Nat):Int)) (v':= .int .i64 ((bs.length:Nat):Int)) (by rw [cM]) (aB rfl rfl rfl true (dJ (a:=bs.length) (b:=4096) rfl rfl) (a0 (aP rfl (sr (mv 2 rfl (a0 (aM (bL (aL [.int .u64 0,.int .i64 5] rfl ⟨rfl,rfl,trivial⟩ ?_)))))))))))
  have hr:=IE hlong
  exact⟨_,rfl,⟨_,_,rfl,(show bV .u64 ((0:Nat):Int)=_ by rw [hr]),(show bV .i64 _=_ by rw [hr])⟩,(Ext.refl w)⟩
 · 
  refine a7 (mv 1 rfl (bD rfl rfl (v:= .int .i64 (((a8 bs).size:Nat):Int)) (v':= .int .i64 ((bs.length:Nat):Int)) (by rw [cM]) (aB rfl rfl rfl false (d6 (a:=bs.length) (b:=4096) rfl rfl) (a0 (aI rfl (aN (aD (aA ?_))))))))
  rcases hcut:fO bs with _ | ⟨dg,bh,dn,pw⟩
  · 
   refine a7 (mv 1 rfl (dD rfl rfl (vs:= [.string (a8 bs)]) (by kernel_rfl) (by decide) (UU hbs (by omega) hcut) ?_))
   rintro _ v1 ⟨ng4,dg5,bh6,dn7,ex8,p9,xr3,rfl,r3,e2⟩
   refine dE ?_
   have hw1:=(Ext.refl w).trans e2
   obtain rfl:=r3
   refine mv 1 rfl (pu (v:= .bool ng4) rfl (pu (v:= .string (a8 dg5)) rfl (pu (v:= .int .i64 bh6) rfl (pu (v:= .bool dn7) rfl (pu (v:= .string (a8 ex8)) rfl (pu (v:= .bool false) rfl (mv 6 rfl (a0 (aA (sr (mv 1 rfl (pu (v:= .bool true) rfl (aU ?_)))))))))))))
   refine aD (aP rfl (sr (mv 2 rfl (a0 (aM (bL (aL [.int .u64 0,.int .i64 7] rfl ⟨rfl,rfl,trivial⟩ ?_)))))))
   have hr:=ID hlong hcut
   exact⟨_,rfl,⟨_,_,rfl,(show bV .u64 ((0:Nat):Int)=_ by rw [hr]),(show bV .i64 _=_ by rw [hr])⟩,hw1⟩
  · 
   obtain⟨hdg,hdg0,hpw,hbh,hdgl,hpwl⟩:=MD hcut
   have hdg256:∀b,b∈dg→b<256:=fun b hb=>by have:=hdg b hb;omega
   obtain⟨hxd,hx0,hxv,hxl⟩:=V7 hpw
   obtain⟨ex,hxe⟩:∃ex,ex=mR pw:=⟨_,rfl⟩
   rw [←hxe] at hxd hx0 hxv hxl
   have hx256:∀b,b∈ex→b<256:=fun b hb=>by have:=hxd b hb;omega
   obtain⟨X,hX⟩:∃X,cG 10 (dg.map dv)=X:=⟨_,rfl⟩
   obtain⟨V,hV⟩:∃V,cG 10 (pw.map dv)=V:=⟨_,rfl⟩
   rw [hV] at hxv
   have hXl:(wd X).length≤4096:=by rw [←hX];exact aG (CT (hdg.good hdg0).2) (by omega)
   have hVl:(wd V).length≤4097:=by rw [←hxv];exact aG (CT (hxd.good hx0).2) (by omega)
   refine a7 (mv 1 rfl (cl (vs:= [.string (a8 bs)]) (Ext.refl w) (UT hxe hbs (by omega) hcut) rfl (by kernel_rfl) fun xr12 v10 r12 e11 hw1=>?_))
   obtain rfl:=r12
   refine mv 1 rfl (pu (v:= .bool (aZ bs)) rfl (pu (v:= .string (a8 dg)) rfl (pu (v:= .int .i64 bh) rfl (pu (v:= .bool dn) rfl (pu (v:= .string (a8 ex)) rfl (pu (v:= .bool true) rfl (mv 6 rfl (a0 (aA (sr (mv 1 rfl (pu (v:= .bool false) rfl (aU ?_)))))))))))))
   refine aD (aI rfl (aN (aD (sr (mv 1 rfl (cl (vs:= [.string (a8 ex)]) hw1 (tC hw1.size hxv hx256 (hxd.good hx0)) rfl (by kernel_rfl) fun xr15 v13 r15 e14 hw2=>?_))))))
   obtain⟨_,_,rfl,⟨A17,n17,c17,rfl,j17,o17⟩,rfl⟩:=r15
   refine mv 1 rfl (pu (v:= .slice A17 n17 c17) rfl (pu (v:= .int .i64 0) rfl (mv 2 rfl (a0 (aA (aA ?_))))))
   by_cases h5:5000<V
   · 
    refine a7 (mv 1 rfl (dQ rfl rfl (k:=1) (e:=65) [.int .u64 5000] (fun _=>by kernel_rfl) fun g18 v19 nb20=>?_))
    have o21:=O1.mk_ (x:=5000) (b:=w.heap.size) nb20 hw2.size
    have e22:=nb20.ext
    have hw3:=hw2.trans e22
    have o24:=iK o21 (show 5000≤18446744073709551615 by decide) (show 5000≠0 by decide)
    have j23:=hZ (show 5000≤18446744073709551615 by decide) (show 5000≠0 by decide)
    refine cl (vs:= [.slice A17 n17 c17,.slice (some ⟨g18,0,none⟩) 1 1]) hw3 (qT (o17.ext e22).wi (by omega) o24.wi (by omega)) rfl (by kernel_rfl) fun xr27 v25 r27 e26 hw4=>?_
    obtain rfl:=r27
    refine aB rfl rfl rfl true (qS (by rw [wB h5];decide)) (a0 (aP rfl (sr (mv 2 rfl (a0 (aM (bL (aL [.int .u64 0,.int .i64 5] rfl ⟨rfl,rfl,trivial⟩ ?_))))))))
    have hr:=IF hlong hcut (by rw [hV];exact h5)
    exact⟨_,rfl,⟨_,_,rfl,(show bV .u64 ((0:Nat):Int)=_ by rw [hr]),(show bV .i64 _=_ by rw [hr])⟩,hw4⟩
   · 
    refine a7 (mv 1 rfl (dQ rfl rfl (k:=1) (e:=65) [.int .u64 5000] (fun _=>by kernel_rfl) fun g28 v29 nb30=>?_))
    have o31:=O1.mk_ (x:=5000) (b:=w.heap.size) nb30 hw2.size
    have e32:=nb30.ext
    have hw3:=hw2.trans e32
    have o34:=iK o31 (show 5000≤18446744073709551615 by decide) (show 5000≠0 by decide)
    have j33:=hZ (show 5000≤18446744073709551615 by decide) (show 5000≠0 by decide)
    refine cl (vs:= [.slice A17 n17 c17,.slice (some ⟨g28,0,none⟩) 1 1]) hw3 (qT (o17.ext e32).wi (by omega) o34.wi (by omega)) rfl (by kernel_rfl) fun xr37 v35 r37 e36 hw4=>?_
    obtain rfl:=r37
    refine aB rfl rfl rfl false (pF (h:=(by unfold dH;split;(· omega);(· split;(· omega);(· omega))))) (a0 (aI rfl (aN (aD (sr (mv 1 rfl (a0 (i8 (T:=a6×Nat) (fun⟨wr,x1⟩=> [(4,.bool (aZ bs)),(5,.string (a8 dg)),(6,.int .i64 bh),(7,.bool dn),(12,.int .i64 x1)]) (fun⟨wr,x1⟩=>wr) (fun⟨wr,x1⟩=>(Ext w wr)∧(x1=V)) ?_ ?_))))))))
    · 
     refine aA ?_
     by_cases hV0:V=0
     · 
      have hln:n17=0:=by rw [j17];exact jN.2 hV0
      refine a7 (mv 1 rfl (pu (v:= .int .i64 n17) rfl (aB rfl rfl rfl false (d6 (a:=n17) (b:=0) rfl rfl) (a0 (aI rfl (aN (dG (⟨v35,0⟩:a6×Nat) ⟨hw4,(by omega)⟩ rfl ⟨rfl,rfl,rfl,rfl,rfl,trivial⟩)))))))
     · 
      have hln:n17≠0:=by rw [j17];exact fun e=>hV0 (jN.1 e)
      have hV1:=yO hV0
      refine a7 (mv 1 rfl (pu (v:= .int .i64 n17) rfl (aB rfl rfl rfl true (dJ (a:=n17) (b:=0) rfl rfl) (a0 (aP rfl (a7 (mv 1 rfl ?_)))))))
      obtain⟨p38,hp38,hc38⟩:=yF (o17.ext (e32.trans e36)) j17 hV1
      refine bT rfl rfl rfl bU bN 0 rfl p38 hp38 (aS rfl rfl (cZ d7 hc38) (bD rfl rfl (v:= .int .i64 (IntKind.i64.wrap ((V:Nat):Int))) (v':= .int .i64 V) (lS (by first | omega | exact hle64)) (mv 1 rfl (aU (dG (⟨v35,V⟩:a6×Nat) ⟨hw4,rfl⟩ rfl ⟨rfl,rfl,rfl,rfl,rfl,trivial⟩))))) (hj:=(by rw [j17,hV1];decide))
    · 
     rintro⟨wr,x1⟩ ⟨hw1,hx1⟩
     refine cC [(4,.bool (aZ bs)),(5,.string (a8 dg)),(6,.int .i64 bh),(7,.bool dn),(12,.int .i64 x1)] wr rfl ⟨rfl,rfl,rfl,rfl,rfl,trivial⟩ (aA (aA ?_))
     subst hx1
     cases dn
     · 
      refine a7 (mv 1 rfl (a0 (aI rfl (aN (aD (sr (mv 2 rfl (aE rfl rfl rfl (((x1:Nat):Int)-((bh:Nat):Int)) (dM rfl) (mv 1 rfl (a0 (aA ?_)))))))))))
      by_cases hz:bh≤x1
      · 
       refine bE [(4,.bool (aZ bs)),(5,.string (a8 dg)),(6,.int .i64 bh),(7,.bool false),(12,.int .i64 (((x1:Nat):Int)-((bh:Nat):Int))),(46,.bool false),(49,.int .i64 x1),(50,.int .i64 bh),(51,.int .i64 (((x1:Nat):Int)-((bh:Nat):Int)))] ⟨rfl,rfl,rfl,rfl,rfl,rfl,rfl,rfl,rfl,trivial⟩ ?_
       rw [show (((x1:Nat):Int)-((bh:Nat):Int))=((x1-bh:Nat):Int) by omega]
       have h10:(wd (10^(x1-bh))).length≤(x1-bh)+1:=kA
       refine a7 (mv 1 rfl (cl (vs:= [.string (a8 dg)]) hw1 (tC hw1.size hX hdg256 (hdg.good hdg0)) rfl (by kernel_rfl) fun xr41 v39 r41 e40 hw2=>?_))
       obtain⟨_,_,rfl,⟨A43,n43,c43,rfl,j43,o43⟩,rfl⟩:=r41
       refine mv 1 rfl (pu (v:= .slice A43 n43 c43) rfl (pu (v:= .int .i64 0) rfl (mv 2 rfl (a0 (sr (dQ rfl rfl (k:=1) (e:=65) [.int .u64 1] (fun _=>by kernel_rfl) fun g44 v45 nb46=>?_))))))
       have o47:=O1.mk_ (x:=1) (b:=w.heap.size) nb46 hw2.size
       have e48:=nb46.ext
       have hw3:=hw2.trans e48
       have o50:=iK o47 (show 1≤18446744073709551615 by decide) (show 1≠0 by decide)
       have j49:=hZ (show 1≤18446744073709551615 by decide) (show 1≠0 by decide)
       refine mv 1 rfl (a0 (aA (sr (mv 1 rfl (aB rfl rfl rfl true (eI (a:=x1-bh) (b:=0) rfl rfl) (a0 (aP rfl (a7 (mv 2 rfl (cl (vs:= [.int .i64 ((x1-bh:Nat):Int)]) hw3 (yE (n:=x1-bh) hw3.size) rfl (by kernel_rfl) fun xr53 v51 r53 e52 hw4=>?_))))))))))
       obtain⟨A54,n54,c54,rfl,j54,o54⟩:=r53
       refine cl (vs:= [.slice A43 n43 c43,.slice A54 n54 c54]) hw4 (CY hw4.size (o43.ext (e48.trans e52)).wi (by omega) o54.wi (by omega)) rfl (by kernel_rfl) fun xr57 v55 r57 e56 hw5=>?_
       obtain⟨A58,n58,c58,rfl,j58,o58⟩:=r57
       refine mv 1 rfl (a0 (aA ?_))
       have hXM:(wd (X*10^(x1-bh))).length≤20000:=by have:=vP X (10^(x1-bh));omega
       obtain⟨nb,hnb⟩:∃nb,cU ((X*10^(x1-bh))*2^bM) 1=nb:=⟨_,rfl⟩
       have hrd:=qF (nb:=nb) hlong hcut hV h5 hX (by unfold mT;rw [if_pos ⟨rfl,hz⟩];exact hnb)
       refine a7 (mv 3 rfl (cl (vs:= [.slice A58 n58 c58,.slice (some ⟨g44,0,none⟩) 1 1,.bool (aZ bs)]) hw5 (tD (ng:=aZ bs) o58.wi (o50.ext (e52.trans e56)).wi (by decide) hnb) rfl (by kernel_rfl) fun xr61 v59 r61 e60 hw6=>?_))
       obtain rfl:=r61
       refine mv 2 rfl (a0 (aM (aL [.int .u64 ((dV (aZ bs) nb:Nat):Int),I0] rfl ⟨rfl,rfl,trivial⟩ ?_)))
       have hr:=hrd
       exact⟨_,rfl,⟨_,_,rfl,(show bV .u64 ((dV (aZ bs) nb:Nat):Int)=_ by rw [hr]),(show bV .i64 _=_ by rw [hr])⟩,hw6⟩
      · 
       refine bE [(4,.bool (aZ bs)),(5,.string (a8 dg)),(6,.int .i64 bh),(7,.bool false),(12,.int .i64 (((x1:Nat):Int)-((bh:Nat):Int))),(46,.bool false),(49,.int .i64 x1),(50,.int .i64 bh),(51,.int .i64 (((x1:Nat):Int)-((bh:Nat):Int)))] ⟨rfl,rfl,rfl,rfl,rfl,rfl,rfl,rfl,rfl,trivial⟩ ?_
       rw [show (((x1:Nat):Int)-((bh:Nat):Int))=(-((bh-x1:Nat):Int)) by omega]
       have h10:(wd (10^(bh-x1))).length≤(bh-x1)+1:=kA
       refine a7 (mv 1 rfl (cl (vs:= [.string (a8 dg)]) hw1 (tC hw1.size hX hdg256 (hdg.good hdg0)) rfl (by kernel_rfl) fun xr64 v62 r64 e63 hw2=>?_))
       obtain⟨_,_,rfl,⟨A66,n66,c66,rfl,j66,o66⟩,rfl⟩:=r64
       refine mv 1 rfl (pu (v:= .slice A66 n66 c66) rfl (pu (v:= .int .i64 0) rfl (mv 2 rfl (a0 (sr (dQ rfl rfl (k:=1) (e:=65) [.int .u64 1] (fun _=>by kernel_rfl) fun g67 v68 nb69=>?_))))))
       have o70:=O1.mk_ (x:=1) (b:=w.heap.size) nb69 hw2.size
       have e71:=nb69.ext
       have hw3:=hw2.trans e71
       have o73:=iK o70 (show 1≤18446744073709551615 by decide) (show 1≠0 by decide)
       have j72:=hZ (show 1≤18446744073709551615 by decide) (show 1≠0 by decide)
       refine mv 1 rfl (a0 (aA (sr (mv 1 rfl (aB rfl rfl rfl false (jG) (a0 (aI rfl (a7 (mv 1 rfl (bD rfl rfl (v:= .int .i64 (IntKind.i64.wrap (0- -((bh-x1:Nat):Int)))) (v':= .int .i64 ((bh-x1:Nat):Int)) (oB) (cl (vs:= [.int .i64 ((bh-x1:Nat):Int)]) hw3 (yE (n:=bh-x1) hw3.size) rfl (by kernel_rfl) fun xr76 v74 r76 e75 hw4=>?_)))))))))))
       obtain⟨A77,n77,c77,rfl,j77,o77⟩:=r76
       refine mv 1 rfl (a0 (aA ?_))
       obtain⟨nb,hnb⟩:∃nb,cU (X*2^bM) (10^(bh-x1))=nb:=⟨_,rfl⟩
       have hrd:=qF (nb:=nb) hlong hcut hV h5 hX (by unfold mT;rw [if_neg (fun h=>hz h.2),if_neg (by decide)];exact hnb)
       refine a7 (mv 3 rfl (cl (vs:= [.slice A66 n66 c66,.slice A77 n77 c77,.bool (aZ bs)]) hw4 (tD (ng:=aZ bs) (o66.ext (e71.trans e75)).wi o77.wi (eP (by decide)) hnb) rfl (by kernel_rfl) fun xr80 v78 r80 e79 hw5=>?_))
       obtain rfl:=r80
       refine mv 2 rfl (a0 (aM (aL [.int .u64 ((dV (aZ bs) nb:Nat):Int),I0] rfl ⟨rfl,rfl,trivial⟩ ?_)))
       have hr:=hrd
       exact⟨_,rfl,⟨_,_,rfl,(show bV .u64 ((dV (aZ bs) nb:Nat):Int)=_ by rw [hr]),(show bV .i64 _=_ by rw [hr])⟩,hw5⟩
     · 
      refine a7 (mv 1 rfl (a0 (aP rfl (a7 (mv 1 rfl (bD rfl rfl (v:= .int .i64 (IntKind.i64.wrap (0-((x1:Nat):Int)))) (v':= .int .i64 (-((x1:Nat):Int))) (M8 (by omega)) (mv 1 rfl (a0 (sr (mv 2 rfl (aE rfl rfl rfl ((-((x1:Nat):Int))-((bh:Nat):Int)) (dM rfl) (mv 1 rfl (aU ?_)))))))))))))
      refine aD (aA ?_)
      by_cases hz:x1+bh=0
      · 
       refine bE [(4,.bool (aZ bs)),(5,.string (a8 dg)),(6,.int .i64 bh),(7,.bool true),(12,.int .i64 ((-((x1:Nat):Int))-((bh:Nat):Int))),(46,.bool true),(47,.int .i64 x1),(48,.int .i64 (-((x1:Nat):Int))),(49,.int .i64 (-((x1:Nat):Int))),(50,.int .i64 bh),(51,.int .i64 ((-((x1:Nat):Int))-((bh:Nat):Int)))] ⟨rfl,rfl,rfl,rfl,rfl,rfl,rfl,rfl,rfl,rfl,rfl,trivial⟩ ?_
       rw [show ((-((x1:Nat):Int))-((bh:Nat):Int))=0 by omega]
       have h10:(wd (10^(0))).length≤0+1:=kA
       refine a7 (mv 1 rfl (cl (vs:= [.string (a8 dg)]) hw1 (tC hw1.size hX hdg256 (hdg.good hdg0)) rfl (by kernel_rfl) fun xr83 v81 r83 e82 hw2=>?_))
       obtain⟨_,_,rfl,⟨A85,n85,c85,rfl,j85,o85⟩,rfl⟩:=r83
       refine mv 1 rfl (pu (v:= .slice A85 n85 c85) rfl (pu (v:= .int .i64 0) rfl (mv 2 rfl (a0 (sr (dQ rfl rfl (k:=1) (e:=65) [.int .u64 1] (fun _=>by kernel_rfl) fun g86 v87 nb88=>?_))))))
       have o89:=O1.mk_ (x:=1) (b:=w.heap.size) nb88 hw2.size
       have e90:=nb88.ext
       have hw3:=hw2.trans e90
       have o92:=iK o89 (show 1≤18446744073709551615 by decide) (show 1≠0 by decide)
       have j91:=hZ (show 1≤18446744073709551615 by decide) (show 1≠0 by decide)
       refine mv 1 rfl (a0 (aA (sr (mv 1 rfl (aB rfl rfl rfl true (by decide) (a0 (aP rfl (a7 (mv 2 rfl (cl (vs:= [I0]) hw3 (yE (n:=0) hw3.size) rfl (by kernel_rfl) fun xr95 v93 r95 e94 hw4=>?_))))))))))
       obtain⟨A96,n96,c96,rfl,j96,o96⟩:=r95
       refine cl (vs:= [.slice A85 n85 c85,.slice A96 n96 c96]) hw4 (CY hw4.size (o85.ext (e90.trans e94)).wi (by omega) o96.wi (by omega)) rfl (by kernel_rfl) fun xr99 v97 r99 fN hw5=>?_
       obtain⟨A100,n100,c100,rfl,j100,o100⟩:=r99
       refine mv 1 rfl (a0 (aA ?_))
       have hXM:(wd (X*10^(0))).length≤20000:=by have:=vP X (10^(0));omega
       obtain⟨nb,hnb⟩:∃nb,cU ((X*10^(0))*2^bM) 1=nb:=⟨_,rfl⟩
       have hrd:=qF (nb:=nb) hlong hcut hV h5 hX (by unfold mT;rw [if_neg (by simp),if_pos rfl,hz,Nat.pow_zero];rw [Nat.pow_zero,cI] at hnb;exact hnb)
       refine a7 (mv 3 rfl (cl (vs:= [.slice A100 n100 c100,.slice (some ⟨g86,0,none⟩) 1 1,.bool (aZ bs)]) hw5 (tD (ng:=aZ bs) o100.wi (o92.ext (e94.trans fN)).wi (by decide) hnb) rfl (by kernel_rfl) fun xr103 v101 r103 e102 hw6=>?_))
       obtain rfl:=r103
       refine mv 2 rfl (a0 (aM (aL [.int .u64 ((dV (aZ bs) nb:Nat):Int),I0] rfl ⟨rfl,rfl,trivial⟩ ?_)))
       have hr:=hrd
       exact⟨_,rfl,⟨_,_,rfl,(show bV .u64 ((dV (aZ bs) nb:Nat):Int)=_ by rw [hr]),(show bV .i64 _=_ by rw [hr])⟩,hw6⟩
      · 
       refine bE [(4,.bool (aZ bs)),(5,.string (a8 dg)),(6,.int .i64 bh),(7,.bool true),(12,.int .i64 ((-((x1:Nat):Int))-((bh:Nat):Int))),(46,.bool true),(47,.int .i64 x1),(48,.int .i64 (-((x1:Nat):Int))),(49,.int .i64 (-((x1:Nat):Int))),(50,.int .i64 bh),(51,.int .i64 ((-((x1:Nat):Int))-((bh:Nat):Int)))] ⟨rfl,rfl,rfl,rfl,rfl,rfl,rfl,rfl,rfl,rfl,rfl,trivial⟩ ?_
       rw [show ((-((x1:Nat):Int))-((bh:Nat):Int))=(-((x1+bh:Nat):Int)) by omega]
       have h10:(wd (10^(x1+bh))).length≤(x1+bh)+1:=kA
       refine a7 (mv 1 rfl (cl (vs:= [.string (a8 dg)]) hw1 (tC hw1.size hX hdg256 (hdg.good hdg0)) rfl (by kernel_rfl) fun xr106 v104 r106 e105 hw2=>?_))
       obtain⟨_,_,rfl,⟨A108,n108,c108,rfl,j108,o108⟩,rfl⟩:=r106
       refine mv 1 rfl (pu (v:= .slice A108 n108 c108) rfl (pu (v:= .int .i64 0) rfl (mv 2 rfl (a0 (sr (dQ rfl rfl (k:=1) (e:=65) [.int .u64 1] (fun _=>by kernel_rfl) fun g109 v110 nb111=>?_))))))
       have o112:=O1.mk_ (x:=1) (b:=w.heap.size) nb111 hw2.size
       have e113:=nb111.ext
       have hw3:=hw2.trans e113
       have o115:=iK o112 (show 1≤18446744073709551615 by decide) (show 1≠0 by decide)
       have j114:=hZ (show 1≤18446744073709551615 by decide) (show 1≠0 by decide)
       refine mv 1 rfl (a0 (aA (sr (mv 1 rfl (aB rfl rfl rfl false (jG) (a0 (aI rfl (a7 (mv 1 rfl (bD rfl rfl (v:= .int .i64 (IntKind.i64.wrap (0- -((x1+bh:Nat):Int)))) (v':= .int .i64 ((x1+bh:Nat):Int)) (oB) (cl (vs:= [.int .i64 ((x1+bh:Nat):Int)]) hw3 (yE (n:=x1+bh) hw3.size) rfl (by kernel_rfl) fun xr118 v116 r118 e117 hw4=>?_)))))))))))
       obtain⟨A119,n119,c119,rfl,j119,o119⟩:=r118
       refine mv 1 rfl (a0 (aA ?_))
       obtain⟨nb,hnb⟩:∃nb,cU (X*2^bM) (10^(x1+bh))=nb:=⟨_,rfl⟩
       have hrd:=qF (nb:=nb) hlong hcut hV h5 hX (by unfold mT;rw [if_neg (by simp),if_pos rfl];exact hnb)
       refine a7 (mv 3 rfl (cl (vs:= [.slice A108 n108 c108,.slice A119 n119 c119,.bool (aZ bs)]) hw4 (tD (ng:=aZ bs) (o108.ext (e113.trans e117)).wi o119.wi (eP (by decide)) hnb) rfl (by kernel_rfl) fun xr122 v120 r122 e121 hw5=>?_))
       obtain rfl:=r122
       refine mv 2 rfl (a0 (aM (aL [.int .u64 ((dV (aZ bs) nb:Nat):Int),I0] rfl ⟨rfl,rfl,trivial⟩ ?_)))
       have hr:=hrd
       exact⟨_,rfl,⟨_,_,rfl,(show bV .u64 ((dV (aZ bs) nb:Nat):Int)=_ by rw [hr]),(show bV .i64 _=_ by rw [hr])⟩,hw5⟩
theorem TC (i:Nat):bP i 48++ [48]=bP (i+1) 48:=by rw [List.replicate_succ']
set_option maxHeartbeats 4000000 in
theorem C6 {w:a6}(hn:n≤17179869184:=by omega):
    aO aF 218 #[.int .i64 n] w (Gv w (Is (.string (a8 (bP n 48))))):=by
 refine bK Tryz.func218 rfl (n:=15) rfl (bq rfl) (args:= [.int .i64 n]) (bE [(0,.int .i64 n)] ⟨rfl,trivial⟩ (sr (mv 1 rfl (a0 (sr (mv 1 rfl (a0 (aA (sr (mv 1 rfl (a0 (bG ?_))))))))))))
 refine d4 (T:=a6×Nat×Option aC×Nat×Nat)
  (fun⟨wr,i,OA,on,oc⟩=> [(0,.int .i64 n),(3,.slice OA on oc),(4,.int .i64 i)])
  (fun⟨wr,i,OA,on,oc⟩=>wr)
  (fun⟨wr,i,OA,on,oc⟩=>(Ext w wr)∧(Own wr w.heap.size 5 1 OA on oc ((bP i 48).map B8))∧(i≤n)∧(on=i))
  (fun⟨wr,i,OA,on,oc⟩=>n-i)
  (⟨w,0,none,0,0⟩:a6×Nat×Option aC×Nat×Nat) ⟨(Ext.refl w),(Own.nil _ _ _ _),(bW _),rfl⟩ rfl ⟨rfl,rfl,rfl,trivial⟩ ?_
 rintro⟨wr,i,OA,on,oc⟩ ⟨hw1,hO,hi,hon⟩
 refine cC [(0,.int .i64 n),(3,.slice OA on oc),(4,.int .i64 i)] wr rfl ⟨rfl,rfl,rfl,trivial⟩ (aA (aA ?_))
 by_cases hlt:i<n
 · 
  refine a7 (mv 2 rfl (aB rfl rfl rfl true (dB (a:=i) (b:=n) rfl rfl) (a0 (aP rfl (aN (aD (aA (bG (a7 (mv 1 rfl (dQ rfl rfl (k:=1) (e:=5) [.int .u8 48] (fun _=>by kernel_rfl) fun g1 v2 nb=>?_)))))))))))
  have hb3:=nb.bk
  have e4:=nb.ext
  clear nb
  have hw2:=hw1.trans e4
  have ow5:=(hO.ext e4)
  refine nP rfl rfl rfl fM qR rfl ow5 hw2.size [.int .u8 48] rfl (oW _ hb3) rfl fun A6 c7 v8 ho9 uo10 kp11=>?_
  have hw3:=uo10.ext hw2 (fun p hp=>(ow5.block p hp).1)
  have ho12:Own v8 w.heap.size 5 1 A6 (on+1) c7 (((bP i 48)++ [48]).map B8):=by have h:=ho9;simp only [List.map_append,iN,j7] at h⊢;exact h
  refine mv 1 rfl (aU (cA (aD (a7 (mv 1 rfl (aE rfl rfl rfl ((i+1:Nat):Int) (bF (a:=i) (b:=1) rfl rfl) (mv 1 rfl (aU (cH (⟨v8,i+1,A6,on+1,c7⟩:a6×Nat×Option aC×Nat×Nat) ⟨hw3,(by have h:=ho12;rw [TC] at h;exact h),(by omega),(by omega)⟩ (show n-(i+1)<n-i by omega) rfl ⟨rfl,rfl,rfl,trivial⟩)))))))))
 · 
  refine a7 (mv 2 rfl (aB rfl rfl rfl false (cX (a:=i) (b:=n) rfl rfl) (a0 (aI rfl (cR (cN (cP (cQ (aD (sr (mv 1 rfl (uK rfl rfl hO (mv 1 rfl ?_)))))))))))))
  refine a0 (aM (aL [.string (a8 (bP i 48))] rfl ⟨rfl,trivial⟩ ?_))
  exact⟨_,rfl,(show Value.string (a8 (bP i 48))=_ by rw [show i=n by omega]),hw1⟩
theorem PW (h:(wd X).length≤N):(wd (X+1)).length≤N+1:=by
 refine fY ?_
 have h1:=kS X
 have h2:X<WB^N:=dF h1 (Nat.pow_le_pow_right gE h)
 rw [cB]
 have h3:WB^N*2≤WB^N*WB:=Nat.mul_le_mul_left _ (by rw [cF];decide)
 omega
set_option maxHeartbeats 4000000 in
theorem U5 {w:a6}(hbs:∀b,b∈bs→b<256)(hlen:bs.length≤17179869184)(hg:mG 10 bs)(hX:cG 10 (bs.map dv)=X)(hXl:(wd X).length≤1048570):
    aO aF 219 #[.string (a8 bs)] w (Gv w (Is (.string (a8 (bB 10 (X+1)))))):=by
 have hXl1:(wd (X+1)).length≤1048571:=PW hXl
 refine bK Tryz.func219 rfl (n:=15) rfl (bq rfl) (args:= [.string (a8 bs)]) (bE [(0,.string (a8 bs))] ⟨rfl,trivial⟩ (sr (mv 1 rfl (a0 (sr (mv 1 rfl (cl (vs:= [.string (a8 bs)]) (Ext.refl w) (tC (Ext.refl w).size hX hbs hg (hlen:=hlen)) rfl (by kernel_rfl) fun xr3 v1 r3 e2 hw1=>?_)))))))
 obtain⟨_,_,rfl,⟨A5,n5,c5,rfl,j5,o5⟩,rfl⟩:=r3
 refine mv 1 rfl (pu (v:= .slice A5 n5 c5) rfl (pu (v:= .int .i64 0) rfl (mv 2 rfl (a0 (sr (mv 1 rfl (dQ rfl rfl (k:=1) (e:=65) [.int .u64 1] (fun _=>by kernel_rfl) fun g6 v7 nb8=>?_)))))))
 have o9:=O1.mk_ (x:=1) (b:=w.heap.size) nb8 hw1.size
 have e10:=nb8.ext
 have hw2:=hw1.trans e10
 have o12:=iK o9 (show 1≤18446744073709551615 by decide) (show 1≠0 by decide)
 have j11:=hZ (show 1≤18446744073709551615 by decide) (show 1≠0 by decide)
 refine cl (vs:= [.slice A5 n5 c5,.slice (some ⟨g6,0,none⟩) 1 1]) hw2 (CZ hw2.size (o5.ext e10).wi (by omega) o12.wi (by omega)) rfl (by kernel_rfl) fun xr15 v13 r15 e14 hw3=>?_
 obtain⟨A16,n16,c16,rfl,j16,o16⟩:=r15
 refine mv 1 rfl (a0 (sr (mv 1 rfl (cl (vs:= [.slice A16 n16 c16]) hw3 (I2 o16.wi (by omega)) rfl (by kernel_rfl) fun xr19 v17 r19 e18 hw4=>?_))))
 obtain rfl:=r19
 refine mv 1 rfl (a0 (aM (aL [.string (a8 (bB 10 (X+1)))] rfl ⟨rfl,trivial⟩ ?_)))
 exact⟨_,rfl,rfl,hw4⟩
def mA:List Nat→List Nat→Bool
 | _,[]=>false
 | [],_::_=>true
 | a::x,b::y=>decide (a<b)||(decide (a=b)&&mA x y)
theorem KA:∀{a b:List Nat},(∀x,x∈a→x<256)→(∀x,x∈b→x<256)→Op.bytesLess (a.map UInt8.ofNat) (b.map UInt8.ofNat)=mA a b
 | [],[],_,_=>rfl
 | _::_,[],_,_=>rfl
 | [],_::_,_,_=>rfl
 | a::x,b::y,ha,hb=>by
  have ih:=KA (fun z hz=>ha z (List.mem_cons_of_mem _ hz)) (fun z hz=>hb z (List.mem_cons_of_mem _ hz))
  have h1:=ha a List.mem_cons_self
  have h2:=hb b List.mem_cons_self
  show (decide (UInt8.ofNat a<UInt8.ofNat b)||(UInt8.ofNat a==UInt8.ofNat b&&Op.bytesLess (x.map UInt8.ofNat) (y.map UInt8.ofNat)))=_
  have e1:decide (UInt8.ofNat a<UInt8.ofNat b)=decide (a<b):=by
   congr 1
   rw [UInt8.lt_iff_toNat_lt,UInt8.toNat_ofNat',UInt8.toNat_ofNat',fG h1,fG h2]
  have e2:(UInt8.ofNat a==UInt8.ofNat b)=decide (a=b):=by
   by_cases h:a=b
   ·subst h;simp
   ·rw [decide_eq_false h,beq_eq_false_iff_ne]
    intro e
    have:=congrArg UInt8.toNat e
    rw [UInt8.toNat_ofNat',UInt8.toNat_ofNat',fG h1,fG h2] at this
    exact h this
  rw [e1,e2,ih];rfl
theorem KB:∀{a b:List Nat}{c d:Nat},a.length=b.length→mA (a++ [c]) (b++ [d])=(mA a b||(decide (a=b)&&decide (c<d)))
 | [],[],c,d,_=>by simp [mA]
 | a::x,b::y,c,d,h=>by
  have ih:=KB (a:=x) (b:=y) (c:=c) (d:=d) (by simpa using h)
  show (decide (a<b)||(decide (a=b)&&mA (x++ [c]) (y++ [d])))=((decide (a<b)||(decide (a=b)&&mA x y))||(decide (a::x=b::y)&&decide (c<d)))
  rw [ih]
  by_cases h1:a<b
  ·simp [h1]
  ·by_cases h2:a=b
   ·subst h2;simp
   ·simp [h1,h2]
theorem zL:∀{k u v:Nat},u<10^k→v<10^k→aV k u=aV k v→u=v
 | 0,u,v,hu,hv,_=>by rw [Nat.pow_zero] at hu hv;omega
 | k+1,u,v,hu,hv,h=>by
  rw [aV,aV] at h
  obtain⟨h1,h2⟩:=List.append_inj' h rfl
  rw [cB] at hu hv
  have h3:=zL (by omega) (by omega) h1
  have h4:48+u%10=48+v%10:=by simpa using h2
  omega
theorem K9:∀{k u v:Nat},u<10^k→v<10^k→mA (aV k u) (aV k v)=decide (u<v)
 | 0,u,v,hu,hv=>by rw [Nat.pow_zero] at hu hv;exact (decide_eq_false (by omega)).symm
 | k+1,u,v,hu,hv=>by
  rw [cB] at hu hv
  rw [aV,aV,KB (by rw [d5,d5]),K9 (by omega) (by omega)]
  have e:(aV k (u/10)=aV k (v/10))↔u/10=v/10:=⟨fun h=>zL (by omega) (by omega) h,fun h=>by rw [h]⟩
  simp only [e]
  rw [Bool.eq_iff_iff]
  simp only [Bool.or_eq_true,Bool.and_eq_true,decide_eq_true_eq]
  omega
section
variable {P:cD}{Q:Exit→Act→a6→Prop}{n:Nat}{l:Fr}{w:a6}{ops:Array Oper}{rest:List Oper}{d:Nat}{ty:aT}{pos:String}{af:Array Edge}{gd:Option (Nat×Bool)}
theorem SN {x y:cS}(ha:∀x,x∈a→x<256)(hb:∀x,x∈b→x<256)(hr:(!(mA a b||decide (a=b)))=r):
  ((do eqGuard .gtr t x y (.string (a8 a)) (.string (a8 b));binOp .gtr t (.string (a8 a)) (.string (a8 b))):Sem aH).run P w= .ok (.bool r) w:=by
 have key:((a8 a).toList==(a8 b).toList)=decide (a=b):=by
  by_cases h:a=b
  ·subst h;simp
  ·rw [decide_eq_false h,beq_eq_false_iff_ne]
   exact fun e=>h (G8 ha hb (FY e))
 have key2:Op.bytesLess (a8 a).toList (a8 b).toList=mA a b:=by
  rw [ByteArray.toList_eq,ByteArray.toList_eq]
  unfold a8
  rw [List.toList_toArray,List.toList_toArray]
  exact KA ha hb
 subst hr
 simp [eqGuard,binOp,Op.stringOp,key,key2]
theorem pW {t':aT}{x y:cS}(hw:dI ops l gd=some true)(hx:bZ l x=some (.string (a8 a)))(hy:bZ l y=some (.string (a8 b)))(ha:∀x,x∈a→x<256)(hb:∀x,x∈b→x<256)(r:Bool)(hr:(!(mA a b||decide (a=b)))=r)(h:wl P ops Q n rest ((d,.bool r)::l) w)(hn:d<n:=by decide):wl P ops Q n (⟨some d,.binOp .gtr t x y t',ty,pos,af,gd⟩::rest) l w:=
 fJ hw hn (fun a' ha'=>by
  have e:((do eqGuard .gtr t x y (a'.eval x) (a'.eval y);binOp .gtr t (a'.eval x) (a'.eval y)):Sem aH).run P w= .ok (.bool r) w:=by
   rw [ha'.ev hx,ha'.ev hy];exact SN ha hb hr
  show ((((do eqGuard .gtr t x y (a'.eval x) (a'.eval y);binOp .gtr t (a'.eval x) (a'.eval y)):Sem aH)>>=fun r=>pure (Next.value r)):Sem Next).run P w=_
  rw [cK,e];rfl) h
end
def dL (m:Nat):Nat:=(bB 10 m).length
theorem DP (h:0<m):∃k,dL m=k+1∧10^k≤m∧m<10^(k+1)∧bB 10 m=aV (k+1) m:=by
 obtain⟨k,h1,h2⟩:=LW m h
 have e:=uN h h1 h2
 refine⟨k,?_,h1,h2,e⟩
 unfold dL;rw [e,d5]
def gG (m k:Nat):Prop:=10^k<2*(m%10^k)∨(10^k=2*(m%10^k)∧m/10^k%2=1)
instance (m k:Nat):Decidable (gG m k):=inferInstanceAs (Decidable (_∨_))
def dS (m n:Nat):Nat:=if dL m≤n then m*10^(n-dL m) else m/10^(dL m-n)
def gF (m n:Nat):Nat:=if n<dL m∧gG m (dL m-n) then dS m n+1 else dS m n
def fX (m n:Nat):Nat:=if gF m n=10^n then 10^(n-1) else gF m n
def gO (m n:Nat):Nat:=if gF m n=10^n then dL m else dL m-1
def q9 (q n:Nat):List Nat:=(aV n q).take 1++(if 1<n then [46]++(aV n q).drop 1 else [])
def eJ (x:Int)(n:Nat):List Nat:=if x=0 then [48] else ((if x<0 then [45] else [])++q9 (fX x.natAbs n) n)++([101]++bB 10 (gO x.natAbs n))
theorem jU (k:Nat):0<10^k:=eP (by decide)
theorem mN (h:0<m)(hn:1≤n):dS m n<10^n∧10^(n-1)≤dS m n:=by
 obtain⟨k,e,h1,h2,_⟩:=DP h
 unfold dS
 rw [e]
 split
 ·have e1:10^n=10^(k+1)*10^(n-(k+1)):=by rw [←bX];congr 1;omega
  have e2:10^(n-1)=10^k*10^(n-(k+1)):=by rw [←bX];congr 1;omega
  rw [e1,e2]
  exact⟨Nat.mul_lt_mul_of_pos_right h2 (jU _),eA _ h1⟩
 ·have e1:10^(k+1)=10^n*10^(k+1-n):=by rw [←bX];congr 1;omega
  have e2:10^k=10^(n-1)*10^(k+1-n):=by rw [←bX];congr 1;omega
  rw [e1] at h2
  rw [e2] at h1
  exact⟨(Nat.div_lt_iff_lt_mul (jU _)).2 h2,(Nat.le_div_iff_mul_le (jU _)).2 h1⟩
theorem G4 (he:dL m=k+1)(ht:bB 10 m=aV (k+1) m)(hi:i<n):(aV n (dS m n)).getD i 0=if i<k+1 then (bB 10 m).getD i 0 else 48:=by
 rw [mE hi]
 unfold dS
 rw [he]
 split
 ·split
  ·rename_i h1 h2
   rw [ht,mE h2]
   have e:n-1-i=(n-(k+1))+(k+1-1-i):=by omega
   rw [e,bX,←Nat.div_div_eq_div_mul,nG _ (jU _)]
  ·rename_i h1 h2
   have e:n-(k+1)=(n-1-i)+(i-k):=by omega
   rw [e,bX,←bH,Nat.mul_right_comm,nG _ (jU _)]
   obtain⟨d,hd⟩:∃d,i-k=d+1:=⟨i-k-1,by omega⟩
   rw [hd,cB,←bH,Nat.mul_mod_left]
 ·rename_i h1
  rw [if_pos (by omega),ht,mE (by omega),Nat.div_div_eq_div_mul,←bX]
  congr 4
  omega
theorem DH:∀{a k v:Nat},(aV (a+k) v).drop a=aV k v
 | a,0,v=>by
  rw [dN]
  show (aV a v).drop a= []
  exact List.drop_of_length_le (by rw [d5];exact b8 _)
 | a,k+1,v=>by
  show (aV (a+k) (v/10)++ [48+v%10]).drop a=aV k (v/10)++ [48+v%10]
  rw [List.drop_append_of_le_length (by rw [d5];omega),DH]
theorem LX:∀{k v:Nat},(∀c,c∈aV k v→c=48)→v%10^k=0
 | 0,v,_=>by rw [Nat.pow_zero,Nat.mod_one]
 | k+1,v,h=>by
  rw [aV] at h
  have h1:=LX (k:=k) (v:=v/10) fun c hc=>h c (List.mem_append_left _ hc)
  have h2:=h (48+v%10) (List.mem_append_right _ (jI.2 rfl))
  have h3:v%10=0:=by omega
  have e:=Nat.mod_mul (x:=v) (a:=10) (b:=10^k)
  rw [cB,bY,e,h1,h3]
theorem LY:∀{k v c:Nat},v%10^k=0→c∈aV k v→c=48
 | 0,_,_,_,h=>absurd h (by simp [aV])
 | k+1,v,c,h0,h=>by
  have e:=Nat.mod_mul (x:=v) (a:=10) (b:=10^k)
  rw [cB,bY,e] at h0
  rw [aV] at h
  rcases nI.1 h with h | h
  ·refine LY (v:=v/10) ?_ h
   have:=Nat.mul_eq_zero.1 (show 10*(v/10%10^k)=0 by omega)
   omega
  ·rw [jI] at h
   omega
theorem BR:m%10^(j+1)=m/10^j%10*10^j+m%10^j:=by
 rw [cB,Nat.mod_mul]
 have:=bY (10^j) (m/10^j%10)
 omega
theorem SF (h:5<m/10^j%10):gG m (j+1):=by
 have:=BR (m:=m) (j:=j)
 have h1:6*10^j≤m/10^j%10*10^j:=eA _ h
 have h2:=jU j
 refine cE ?_
 rw [cB] at this⊢
 omega
theorem SE (h:m/10^j%10<5):¬gG m (j+1):=by
 have:=BR (m:=m) (j:=j)
 have h1:m/10^j%10*10^j≤4*10^j:=eA _ (by omega)
 have h2:=eO m (jU j)
 unfold gG
 rw [cB] at this⊢
 omega
theorem SG (h:m/10^j%10=5):gG m (j+1)↔(m/10^(j+1)%2=1∨m%10^j≠0):=by
 have:=BR (m:=m) (j:=j)
 rw [h] at this
 have h2:=eO m (jU j)
 unfold gG
 rw [this]
 rw [show 10^(j+1)=10*10^j by rw [cB];omega]
 omega
theorem vO {w:a6}(hT:∀w,(isAgg T).run P w= .ok false w)(hb:Bk w g T' (l.map B8))(hi:i<l.length):(loadVar T ⟨g,i,none⟩).run P w= .ok (.int .u8 ((l.getD i 0:Nat):Int)) w:=by
 refine aY hT hb ?_
 simp [bC,cJ hi,B8]
theorem TB (n:Nat):bP n (bV .u8 0)=(bP n 0).map B8:=by rw [List.map_replicate];rfl
theorem VZ (hk:k<n):(10^n-1)/10^k%10=9:=by
 obtain⟨d,rfl⟩:∃d,n=k+1+d:=⟨n-k-1,by omega⟩
 have hp:0<10^k:=jU k
 have hd:0<10^d:=jU d
 have e:10^(k+1+d)-1=(10^d-1)*10^(k+1)+9*10^k+(10^k-1):=by
  have h1:10^(k+1+d)=10^d*10^(k+1):=by rw [bX,bY]
  have h2:10^(k+1)=10*10^k:=by rw [cB,bY]
  have h3:(10^d-1)*10^(k+1)+10^(k+1)=10^d*10^(k+1):=by
   have:=Nat.succ_mul (10^d-1) (10^(k+1))
   rw [Nat.succ_eq_add_one,show 10^d-1+1=10^d by omega] at this
   omega
  omega
 rw [e,tP (by omega) (hc:=(by decide)),if_pos rfl]
theorem PU {v:Nat}(hk:k<n)(h:v/10^k%10<9):¬v+1=10^n:=fun e=>by
 have:=VZ hk
 rw [←e,kI] at this
 omega
theorem M0 (n:Nat):aV n (10^n)=aV n 0:=by
 have:=DE (n:=n) (v:=10^n)
 rw [Nat.mod_self] at this
 exact this.symm
def UpR (g n v:Nat)(w:a6)(e:Ending)(w':a6):Prop:=e= .returned (.bool (decide (v+1=10^n)))∧Upd g w w'∧Bk w' g 5 ((aV n (v+1)).map B8)
theorem tT {v:Nat}:∀x,x∈aV n v→x<256:=fun x hx=>by have:=kU hx;omega
theorem PR {v u:Nat}(h9:v%10^k=10^k-1)(hu:u=v-(10^k-1)):u/10^k%10=v/10^k%10:=by
 have hp:0<10^k:=jU k
 have h1:=rX v k
 have eu:u=v/10^(k+1)*10^(k+1)+v/10^k%10*10^k+0:=by omega
 have:=tP (h:=v/10^(k+1)) (c:=v/10^k%10) (l:=0) (k:=k) (j:=k) hp
 rw [←eu,if_pos rfl] at this;exact this
set_option maxHeartbeats 4000000 in
theorem yU {w:a6}{v:Nat}(hb0:Bk w g 5 ((aV n v).map B8))(hv:v<10^n)(hn:1≤n)(hnb:n≤1099511627776:=by omega):
    aO aF 220 #[.slice (some ⟨g,0,none⟩) n n] w (UpR g n v w):=by
 refine bK Tryz.func220 rfl (n:=25) rfl (bq rfl) (args:= [.slice (some ⟨g,0,none⟩) n n]) (bE [(0,.slice (some ⟨g,0,none⟩) n n)] ⟨rfl,trivial⟩ (sr (mv 1 rfl (a0 (aA (sr (mv 1 rfl (pu (v:= .int .i64 n) rfl (aE rfl rfl rfl (((n:Nat):Int)-1) (dM rfl) (mv 1 rfl (a0 (bG ?_))))))))))))
 refine d4 (T:=a6×Nat×Int)
  (fun⟨wr,k,ii⟩=> [(0,.slice (some ⟨g,0,none⟩) n n),(3,.int .i64 ii)])
  (fun⟨wr,k,ii⟩=>wr)
  (fun⟨wr,k,ii⟩=>(Upd g w wr)∧(k≤n)∧(ii=(n:Int)-1-k)∧(v%10^k=10^k-1)∧(Bk wr g 5 ((aV n (v-(10^k-1))).map B8)))
  (fun⟨wr,k,ii⟩=>n-k)
  (⟨w,0,_⟩:a6×Nat×Int) ⟨Upd.refl g w,(bW _),(by omega),(by rw [Nat.pow_zero,Nat.mod_one]),(show Bk w g 5 ((aV n (v-(10^0-1))).map B8) from hb0)⟩ rfl ⟨rfl,rfl,trivial⟩ ?_
 rintro⟨wr,k,ii⟩ ⟨hu,hk,hii,h9,hb⟩
 refine cC [(0,.slice (some ⟨g,0,none⟩) n n),(3,.int .i64 ii)] wr rfl ⟨rfl,rfl,trivial⟩ (aA (aA ?_))
 by_cases hkn:k<n
 · 
  refine bE [(0,.slice (some ⟨g,0,none⟩) n n),(3,.int .i64 ii)] ⟨rfl,rfl,trivial⟩ ?_
  rw [show ii=((n-1-k:Nat):Int) by omega]
  have hg:(aV n (v-(10^k-1))).getD (n-1-k) 0=48+v/10^k%10:=by rw [mE (by omega),show n-1-(n-1-k)=k by omega];congr 1;exact (PR h9 rfl)
  refine a7 (mv 1 rfl (aB rfl rfl rfl true (eI (a:=n-1-k) (b:=0) rfl rfl) (a0 (aP rfl (aN (aD (aA (bG (aA (aA ?_))))))))))
  by_cases hlt:(aV n (v-(10^k-1))).getD (n-1-k) 0<57
  · 
   have hc9:v/10^k%10<9:=by omega
   refine a7 (mv 2 rfl (bT rfl rfl rfl fM fF (n-1-k) rfl ⟨g,n-1-k,none⟩ (dP _ _) (aS rfl rfl (vO qX hb (by rw [(d5 _ _)];omega)) (aB rfl rfl rfl true (dB (a:=(aV n (v-(10^k-1))).getD (n-1-k) 0) (b:=57) rfl rfl) (a0 (aP rfl (sr (mv 2 rfl (bT rfl rfl rfl fM fF (n-1-k) rfl ⟨g,n-1-k,none⟩ (dP _ _) (aS rfl rfl (vO qX hb (by rw [(d5 _ _)];omega)) (aE rfl rfl rfl ((((aV n (v-(10^k-1))).getD (n-1-k) 0)+1:Nat):Int) (a1C (a:=(aV n (v-(10^k-1))).getD (n-1-k) 0) (b:=1) rfl rfl (by omega)) (bT rfl rfl rfl fM fF (n-1-k) rfl ⟨g,n-1-k,none⟩ (dP _ _) ?_))))))))))))
   have hb2:=hb
   refine eB rfl rfl rfl fF rfl hb2 (fK (by rw [(d5 _ _)];omega)) rfl (((aV n (v-(10^k-1))).set (n-1-k) (((aV n (v-(10^k-1))).getD (n-1-k) 0)+1)).map B8) (pA _ _ _) fun v1 hb3 u4 hs5=>(a0 (sr (mv 1 rfl (a0 (aM (bL (eC (bL (mY (eC (bL (aL [F0] rfl ⟨rfl,trivial⟩ (⟨by rw [decide_eq_false (PU hkn hc9)];rfl,hu.trans u4,?_⟩)))))))))))))
   have h:=hb3
   rw [hg,show 48+v/10^k%10+1=48+(v/10^k%10+1) by omega,DD hkn (by omega),(PV h9 hc9 rfl).1] at h
   exact h
  · 
   have h9c:v/10^k%10=9:=by omega
   have hset:(aV n (v-(10^k-1))).set (n-1-k) 48=aV n (v-(10^(k+1)-1)):=by rw [show 48=48+0 from rfl,DD hkn (by decide),(PS h9 h9c rfl).1]
   refine a7 (mv 2 rfl (bT rfl rfl rfl fM fF (n-1-k) rfl ⟨g,n-1-k,none⟩ (dP _ _) (aS rfl rfl (vO qX hb (by rw [(d5 _ _)];omega)) (aB rfl rfl rfl false (cX (a:=(aV n (v-(10^k-1))).getD (n-1-k) 0) (b:=57) rfl rfl) (a0 (aI rfl (aN (aD (a7 (mv 2 rfl (bT rfl rfl rfl fM fF (n-1-k) rfl ⟨g,n-1-k,none⟩ (dP _ _) ?_)))))))))))
   have hb7:=hb
   refine eB rfl rfl rfl fF rfl hb7 (fK (by rw [(d5 _ _)];omega)) rfl (((aV n (v-(10^k-1))).set (n-1-k) 48).map B8) (pA _ _ _) fun v6 hb8 u9 hs10=>(aU (cA (aD (a7 (mv 1 rfl (aE rfl rfl rfl (((n-1-k:Nat):Int)-1) (dM rfl) (mv 1 rfl (aU (cH (⟨v6,k+1,_⟩:a6×Nat×Int) ⟨(hu.trans u9),(by omega),(by omega),(PT h9 h9c),(by have h:=hb8;rw [hset] at h;exact h)⟩ (show n-(k+1)<n-k by omega) rfl ⟨rfl,rfl,trivial⟩)))))))))
 · 
  refine a7 (mv 1 rfl (aB rfl rfl rfl false (jG) (a0 (aI rfl (cR (cN (cP (cQ (aD (sr (mv 1 rfl (a0 (aM ?_)))))))))))))
  refine aL [.bool true] rfl ⟨rfl,trivial⟩ ?_
  have hke:k=n:=by omega
  subst hke
  rw [fG hv] at h9
  have hp:=jU k
  refine⟨by rw [decide_eq_true (by omega)];rfl,hu,?_⟩
  rw [show v-(10^k-1)=0 by omega] at hb
  rw [show v+1=10^k by omega,M0]
  exact hb
theorem pC {x:Nat}(h:x≤18446744073709551615:=by omega):(wd x).length≤1:=fY (by rw [cF,Nat.pow_one];omega)
theorem BP (h:¬(n<dL m∧gG m (dL m-n)))(h0:0<m)(hn:1≤n):fX m n=dS m n∧gO m n=dL m-1:=by
 have h1:=mN h0 hn
 have e:gF m n=dS m n:=by unfold gF;rw [if_neg h]
 unfold fX gO
 rw [e,if_neg (by omega),if_neg (by omega)]
 exact⟨rfl,rfl⟩
theorem GO (h:n<dL m∧gG m (dL m-n))(h2:¬dS m n+1=10^n):fX m n=dS m n+1∧gO m n=dL m-1:=by
 have e:gF m n=dS m n+1:=by unfold gF;rw [if_pos h]
 unfold fX gO
 rw [e,if_neg h2,if_neg h2]
 exact⟨rfl,rfl⟩
theorem GP (h:n<dL m∧gG m (dL m-n))(h2:dS m n+1=10^n):fX m n=10^(n-1)∧gO m n=dL m:=by
 have e:gF m n=dS m n+1:=by unfold gF;rw [if_pos h]
 unfold fX gO
 rw [e,if_pos h2,if_pos h2]
 exact⟨rfl,rfl⟩
theorem M2 (hn:1≤n):(aV n (10^n)).set 0 49=aV n (10^(n-1)):=by
 rw [M0,show (0:Nat)=n-1-(n-1) by omega,show 49=48+1 from rfl,DD (by omega) (by decide)]
 congr 1
 simp
theorem Q5 (m:Nat):rI ((m:Nat):Int)=bB 10 m:=by
 unfold rI;rw [if_neg (by omega),Int.natAbs_natCast]
theorem FS (h:0<m):bB 10 m≠ [48]:=fun e=>by
 have h1:=PQ (m:=m)
 rw [e] at h1
 have:cG 10 ([48].map dv)=0:=rfl
 omega
theorem LK (h:∀j,j<i→l.getD j 0=D.getD j 0)(hi:i<l.length)(hc:c=D.getD i 0):∀j,j<i+1→(l.set i c).getD j 0=D.getD j 0:=fun j hj=>by
 by_cases e:i=j
 ·subst e;rw [bC,List.getElem?_set_self hi,hc];rfl
 ·rw [bC,List.getElem?_set_ne e,←bC];exact h j (by omega)
theorem T6 (hs:s=aV (k+1) m)(hn:n<k+1):(∃i,i<(s.drop (n+1)).length∧(s.drop (n+1)).getD i 0≠48)↔m%10^(k-n)≠0:=by
 have e:s.drop (n+1)=aV (k-n) m:=by
  rw [hs,show k+1=(n+1)+(k-n) by omega];exact DH
 rw [e]
 constructor
 ·rintro⟨i,hi,hc⟩ h0
  exact hc (LY h0 (jF hi))
 ·intro h
  refine EL fun hno=>h (LX fun c hc=>?_)
  obtain⟨i,hi,rfl⟩:=List.mem_iff_getElem.1 hc
  refine EL fun h48=>hno ⟨i,hi,?_⟩
  rw [bC,cJ hi];exact h48
theorem WZ {od:Bool}(h:mo=true↔od=true∨∃i,i<p∧l.getD i 0≠48)(hc:l.getD p 0=48):mo=true↔od=true∨∃i,i<p+1∧l.getD i 0≠48:=by
 rw [h]
 refine or_congr Iff.rfl ⟨fun⟨i,hi,h⟩=>⟨i,by omega,h⟩,fun⟨i,hi,h3⟩=>?_⟩
 by_cases hip:i=p
 ·subst hip;exact absurd hc h3
 ·exact⟨i,by omega,h3⟩
theorem K8 {od:Bool}(h:(od=true∨∃i,i<p∧l.getD i 0≠48)∨l.getD p 0≠48):true=true↔od=true∨∃i,i<p+1∧l.getD i 0≠48:=by
 refine⟨fun _=>?_,fun _=>rfl⟩
 rcases h with (h | ⟨i,hi,h⟩) | h
 ·exact cE h
 ·exact bR ⟨i,by omega,h⟩
 ·exact bR ⟨p,by omega,h⟩
theorem Z4 {w:a6}{M:Nat}(hM:M=m)(hs:s=bB 10 M)(hS:Signs w)(hx:Wi w A an ac m)(hal:an≤4194304):aO aF 126 #[.slice A an ac] w (Gv w (Is (.string (a8 s)))):=by subst hM;subst hs;exact BQ hS hx hal
theorem yS {w:a6}{s:Bool}(hx:Zi w s A n c ((X:Nat):Int))(la:n≤4194304)(hS:Signs w):aO aF 40 #[.agg #[.bool s,.slice A n c]] w (Gv w (Is (.string (a8 (bB 10 X))))):=by
 have h:=RU hx la hS
 rw [Q5] at h
 exact h
set_option maxHeartbeats 8000000 in
set_option maxRecDepth 20000 in
theorem YP {w:a6}(hx:Zi w sa Aa na ca x)(la:na≤1048576)(hS:Signs w)(hx00:x≠0)(hn1:1≤n)(hn40:n≤40):
    aO aF 175 #[.agg #[.bool sa,.slice Aa na ca],.int .i64 n] w (Gv w (T2 (Is (.string (a8 (eJ x n)))) (Is (.int .i64 0)))):=by
 have Lx:ln x≤1048576:=aG hx.ln la
 refine bK Tryz.func175 rfl (n:=113) rfl (bq rfl) (args:= [.agg #[.bool sa,.slice Aa na ca],.int .i64 n]) (bE [(0,.agg #[.bool sa,.slice Aa na ca]),(1,.int .i64 n)] ⟨rfl,rfl,trivial⟩ (sr (bx [.bool sa,.slice Aa na ca] (Ext.refl w) rfl rfl rfl fun g1 v2 hb4 ge5 e3 hw1=>(mv 2 rfl (a0 (aA (sr (mv 1 rfl (aB rfl rfl rfl false (cX (a:=n) (b:=1) rfl rfl) (mv 2 rfl (aB rfl rfl rfl false (d6 (a:=n) (b:=40) rfl rfl) (pu (v:= .bool false) rfl (aU ?_)))))))))))))
 refine aD (aI rfl (aN (aD (aA ?_))))
 obtain⟨M,hM⟩:∃M,M=Int.natAbs x:=⟨_,rfl⟩
 have hM0:0<M:=by omega
 obtain⟨s,hs⟩:∃s,s=bB 10 M:=⟨_,rfl⟩
 obtain⟨kL,hkL,hk1,hk2,htx⟩:=DP hM0
 have hsl:s.length=kL+1:=by rw [hs];exact hkL
 have hsd:s=aV (kL+1) M:=by rw [hs,htx]
 have hs256:∀b,b∈s→b<256:=by rw [hsd];exact tT
 have hsn:s≠ [48]:=hs▸FS hM0
 have hsb:s.length≤67108865:=by rw [hs];exact pZ (b:=10) (n:=1048576) (by rw [hM];exact Lx)
 refine a7 (pf g1 1 rfl (aS rfl rfl (aY eM hb4 rfl) (cl (vs:= [.slice Aa na ca]) hw1 (Z4 hM hs (hS.ext hw1) (hx.ext hw1).wi (bQ la rfl)) rfl (by kernel_rfl) fun xr8 v6 r8 e7 hw2=>?_)))
 obtain rfl:=r8
 refine mv 1 rfl (a0 (aA (sr (mv 1 rfl (fV (a:=s) (b:= [48]) rfl rfl rfl hs256 false (q7 (hsn)) (a0 (aI rfl (aN (aD (sr (mv 1 rfl (bD rfl rfl (v:= .int .i64 (((a8 s).size:Nat):Int)) (v':= .int .i64 ((s.length:Nat):Int)) (by rw [cM]) (aE rfl rfl rfl ((s.length-1:Nat):Int) (eR (a:=s.length) (b:=1) rfl rfl) ?_)))))))))))))
 refine mv 1 rfl (a0 (sr (mv 1 rfl (l7 rfl (k:=n) rfl rfl rfl fM qR rfl fun g9 v10 hg11 hb12 e13=>?_))))
 rw [TB] at hb12
 have ge14:w.heap.size≤g9:=by rw [←hg11];exact hw2.size
 have q15:g1<g9:=by rw [←hg11];exact (hb4.ext e7).lt
 clear hg11
 have hw3:=hw2.trans e13
 refine mv 1 rfl (a0 (aA (sr (mv 1 rfl (pu (v:= .int .i64 n) rfl (mv 1 rfl (a0 (bG ?_))))))))
 refine d4 (T:=a6×Nat×List Nat)
  (fun⟨wr,i,l⟩=> [(1,.int .i64 n),(2,.pointer (some ⟨g1,0,none⟩)),(6,.string (a8 s)),(7,.int .i64 ((s.length-1:Nat):Int)),(8,.slice (some ⟨g9,0,none⟩) n n),(32,.int .i64 n),(33,.int .i64 i)])
  (fun⟨wr,i,l⟩=>wr)
  (fun⟨wr,i,l⟩=>(Ext w wr)∧(i≤n)∧(Bk wr g9 5 (l.map B8))∧(l.length=n)∧(∀j,j<i→l.getD j 0=(aV n (dS M n)).getD j 0)∧(Bk wr g1 24 [.bool sa,.slice Aa na ca]))
  (fun⟨wr,i,l⟩=>n-i)
  (⟨v10,0,_⟩:a6×Nat×List Nat) ⟨hw3,(bW _),hb12,(List.length_replicate (n:=n) (a:=0)),(fun j hj=>absurd hj (Nat.not_lt_zero _)),(hb4.ext (e7.trans e13))⟩ rfl ⟨rfl,rfl,rfl,rfl,rfl,rfl,rfl,trivial⟩ ?_
 rintro⟨wr,i,l⟩ ⟨hw1,hi,hb,hl,hI,hbx⟩
 refine cC [(1,.int .i64 n),(2,.pointer (some ⟨g1,0,none⟩)),(6,.string (a8 s)),(7,.int .i64 ((s.length-1:Nat):Int)),(8,.slice (some ⟨g9,0,none⟩) n n),(32,.int .i64 n),(33,.int .i64 i)] wr rfl ⟨rfl,rfl,rfl,rfl,rfl,rfl,rfl,trivial⟩ (aA ?_)
 by_cases hlt:i<n
 · 
  refine a7 (aB rfl rfl rfl true (dB (a:=i) (b:=n) rfl rfl) (a0 (aA (aP rfl (aN (aD (aA (bG (sr (mv 2 rfl (a0 (sr (mv 1 rfl ?_)))))))))))))
  refine mv 1 rfl (bT rfl rfl rfl fM fF i rfl ⟨g9,i,none⟩ (dP _ _) ?_)
  have hb17:=hb
  refine eB rfl rfl rfl fF rfl hb17 (fK (by rw [hl];omega)) rfl ((l.set i 48).map B8) (pA _ _ _) fun v16 hb18 u19 hs20=>?_
  have hw2:=u19.ext hw1 ge14
  refine a0 (aA ?_)
  by_cases his:i<s.length
  · 
   refine a7 (mv 2 rfl (bD rfl rfl (v:= .int .i64 (((a8 s).size:Nat):Int)) (v':= .int .i64 ((s.length:Nat):Int)) (by rw [cM]) (aB rfl rfl rfl true (dB (a:=i) (b:=s.length) rfl rfl) (a0 (aP rfl ?_)))))
   have hc256:s.getD i 0<256:=hs256 _ (jF his)
   refine a7 (mv 4 rfl (dK (bs:=s) (i:=i) rfl rfl rfl Tryz.underlying9 hs256 (bT rfl rfl rfl fM fF i rfl ⟨g9,i,none⟩ (dP _ _) (eB rfl rfl rfl fF rfl hb18 (fK (by rw [(hJ (l:=l) (hl))];omega)) rfl (((l.set i 48).set i (s.getD i 0)).map B8) (pA _ _ _) fun v21 hb23 u24 hs25=>?_))))
   have hw3:=u24.ext hw2 ge14
   refine aU (cA (aD (a7 (aE rfl rfl rfl ((i+1:Nat):Int) (bF (a:=i) (b:=1) rfl rfl) (mv 1 rfl (aU (cH (⟨v21,i+1,(l.set i 48).set i (s.getD i 0)⟩:a6×Nat×List Nat) ⟨hw3,(by omega),hb23,(hJ (l:=l.set i 48) ((hJ (l:=l) (hl)))),(by rw [List.set_set];exact LK hI (by omega) (by rw [G4 hkL htx hlt,if_pos (by omega),←hs])),((hbx.updN u19 (by omega)).updN u24 (by omega))⟩ (show n-(i+1)<n-i by omega) rfl ⟨rfl,rfl,rfl,rfl,rfl,rfl,rfl,trivial⟩)))))))
  · 
   refine a7 (mv 2 rfl (bD rfl rfl (v:= .int .i64 (((a8 s).size:Nat):Int)) (v':= .int .i64 ((s.length:Nat):Int)) (by rw [cM]) (aB rfl rfl rfl false (cX (a:=i) (b:=s.length) rfl rfl) (a0 (aI rfl (aN (cA (aD (a7 (aE rfl rfl rfl ((i+1:Nat):Int) (bF (a:=i) (b:=1) rfl rfl) (mv 1 rfl (aU (cH (⟨v16,i+1,l.set i 48⟩:a6×Nat×List Nat) ⟨hw2,(by omega),hb18,(hJ (l:=l) (hl)),(LK hI (by omega) (by rw [G4 hkL htx hlt,if_neg (by omega)])),(hbx.updN u19 (by omega))⟩ (show n-(i+1)<n-i by omega) rfl ⟨rfl,rfl,rfl,rfl,rfl,rfl,rfl,trivial⟩)))))))))))))
 · 
  have hin:i=n:=by omega
  have hlD:l=aV n (dS M n):=CS (by rw [hl,d5]) (fun j hj=>hI j (by omega))
  subst hlD
  refine a7 (aB rfl rfl rfl false (cX (a:=i) (b:=n) rfl rfl) (a0 (aA (aI rfl (cR (cN (cP (cQ (aD (i8 (T:=a6×Nat×Nat) (fun⟨wr,X,Q⟩=> [(1,.int .i64 n),(2,.pointer (some ⟨g1,0,none⟩)),(7,.int .i64 X),(8,.slice (some ⟨g9,0,none⟩) n n)]) (fun⟨wr,X,Q⟩=>wr) (fun⟨wr,X,Q⟩=>(Ext w wr)∧(Bk wr g9 5 ((aV n Q).map B8))∧(Bk wr g1 24 [.bool sa,.slice Aa na ca])∧(X=gO M n)∧(Q=fX M n)∧(X≤67108865)) ?_ ?_))))))))))
  · 
   refine aA ?_
   by_cases hsn2:s.length>n
   · 
    have hnL:n<dL M:=by rw [hkL];omega
    have hLn:dL M-n=(kL-n)+1:=by rw [hkL];omega
    have hcn:s.getD n 0=48+M/10^(kL-n)%10:=by rw [hsd,mE (by omega),show kL+1-1-n=kL-n by omega]
    have hsv:dS M n=M/10^(kL-n+1):=by unfold dS;rw [if_neg (by omega),hLn]
    refine a7 (mv 1 rfl (bD rfl rfl (v:= .int .i64 (((a8 s).size:Nat):Int)) (v':= .int .i64 ((s.length:Nat):Int)) (by rw [cM]) (mv 1 rfl (aB rfl rfl rfl true (dJ (a:=s.length) (b:=n) rfl rfl) (a0 (aP rfl (aA ?_)))))))
    by_cases hg5:s.getD n 0>53
    · 
     refine a7 (mv 2 rfl (dK (bs:=s) (i:=n) rfl rfl rfl Tryz.underlying9 hs256 (aB rfl rfl rfl true (dJ (a:=s.getD n 0) (b:=53) rfl rfl) (mv 1 rfl (a0 (i8 (T:=a6×Bool) (fun⟨wr,mo⟩=> [(1,.int .i64 n),(2,.pointer (some ⟨g1,0,none⟩)),(7,.int .i64 ((s.length-1:Nat):Int)),(8,.slice (some ⟨g9,0,none⟩) n n),(10,.bool mo)]) (fun⟨wr,mo⟩=>wr) (fun⟨wr,mo⟩=>(Ext w wr)∧(Bk wr g9 5 ((aV n (dS M n)).map B8))∧(Bk wr g1 24 [.bool sa,.slice Aa na ca])∧(mo=true↔gG M (dL M-n))) ?_ ?_))))))
     · 
      refine sr (mv 2 rfl (dK (bs:=s) (i:=n) rfl rfl rfl Tryz.underlying9 hs256 (aB rfl rfl rfl false (dC (a:=s.getD n 0) (b:=53) rfl rfl) (a0 (aI rfl (aN (dG (⟨wr,true⟩:a6×Bool) ⟨hw1,hb,hbx,(by rw [hLn];exact⟨fun _=>(SF (by omega)),fun _=>rfl⟩)⟩ rfl ⟨rfl,rfl,rfl,rfl,rfl,trivial⟩)))))))
     · 
      rintro⟨wr,mo⟩ ⟨hw1,hb,hbx,hmo⟩
      refine cC [(1,.int .i64 n),(2,.pointer (some ⟨g1,0,none⟩)),(7,.int .i64 ((s.length-1:Nat):Int)),(8,.slice (some ⟨g9,0,none⟩) n n),(10,.bool mo)] wr rfl ⟨rfl,rfl,rfl,rfl,rfl,trivial⟩ (aA ?_)
      cases mo
      · 
       have hsq:=BP (fun h=>by have:=hmo.2 h.2;cases this) hM0 hn1
       refine a7 (mv 4 rfl (pu (v:= .bool false) rfl (a0 (aI rfl (aN (dG (⟨wr,s.length-1,fX M n⟩:a6×Nat×Nat) ⟨hw1,(by rw [hsq.1];exact hb),hbx,(by rw [hsq.2,hkL,hsl]),rfl,(by omega)⟩ rfl ⟨rfl,rfl,rfl,rfl,trivial⟩))))))
      · 
       have hr:=hmo.1 rfl
       by_cases hov:dS M n+1=10^n
       · 
        have hsq:=GP ⟨hnL,hr⟩ hov
        refine a7 (mv 3 rfl (dD rfl rfl (vs:= [.slice (some ⟨g9,0,none⟩) n n]) (by kernel_rfl) (by decide) (yU hb (mN hM0 hn1).1 hn1) ?_))
        rintro _ v26 ⟨rfl,u27,hb28⟩
        refine dE ?_
        rw [decide_eq_true hov]
        have hw2:=u27.ext hw1 ge14
        refine pu (v:= .bool true) rfl (a0 (aP rfl (sr (mv 1 rfl (bT rfl rfl rfl fM fF 0 rfl ⟨g9,0,none⟩ (dP _ _) (eB rfl rfl rfl fF rfl hb28 (fK (by rw [(d5 _ _)];omega)) rfl (((aV n (dS M n+1)).set 0 49).map B8) (pA _ _ _) fun v29 hb31 u32 hs33=>?_))))))
        have hw3:=u32.ext hw2 ge14
        refine a0 (a7 (mv 1 rfl (aE rfl rfl rfl (((s.length-1)+1:Nat):Int) (bF (a:=s.length-1) (b:=1) rfl rfl) (mv 1 rfl (aU (dG (⟨v29,(s.length-1)+1,fX M n⟩:a6×Nat×Nat) ⟨hw3,(by rw [hsq.1,←M2 hn1,←hov];exact hb31),((hbx.updN u27 (by omega)).updN u32 (by omega)),(by rw [hsq.2,hkL,hsl];omega),rfl,(by omega)⟩ rfl ⟨rfl,rfl,rfl,rfl,trivial⟩))))))
       · 
        have hsq:=GO ⟨hnL,hr⟩ hov
        refine a7 (mv 3 rfl (dD rfl rfl (vs:= [.slice (some ⟨g9,0,none⟩) n n]) (by kernel_rfl) (by decide) (yU hb (mN hM0 hn1).1 hn1) ?_))
        rintro _ v34 ⟨rfl,u35,hb36⟩
        refine dE ?_
        rw [decide_eq_false hov]
        have hw2:=u35.ext hw1 ge14
        refine pu (v:= .bool false) rfl (a0 (aI rfl (aN (dG (⟨v34,s.length-1,fX M n⟩:a6×Nat×Nat) ⟨hw2,(by rw [hsq.1];exact hb36),(hbx.updN u35 (by omega)),(by rw [hsq.2,hkL,hsl]),rfl,(by omega)⟩ rfl ⟨rfl,rfl,rfl,rfl,trivial⟩))))
    · 
     refine a7 (mv 2 rfl (dK (bs:=s) (i:=n) rfl rfl rfl Tryz.underlying9 hs256 (aB rfl rfl rfl false (d6 (a:=s.getD n 0) (b:=53) rfl rfl) (mv 1 rfl (a0 (i8 (T:=a6×Bool) (fun⟨wr,mo⟩=> [(1,.int .i64 n),(2,.pointer (some ⟨g1,0,none⟩)),(7,.int .i64 ((s.length-1:Nat):Int)),(8,.slice (some ⟨g9,0,none⟩) n n),(10,.bool mo)]) (fun⟨wr,mo⟩=>wr) (fun⟨wr,mo⟩=>(Ext w wr)∧(Bk wr g9 5 ((aV n (dS M n)).map B8))∧(Bk wr g1 24 [.bool sa,.slice Aa na ca])∧(mo=true↔gG M (dL M-n))) ?_ ?_))))))
     · 
      refine aA ?_
      by_cases he5:s.getD n 0=53
      · 
       have h5:M/10^(kL-n)%10=5:=by omega
       refine a7 (mv 2 rfl (dK (bs:=s) (i:=n) rfl rfl rfl Tryz.underlying9 hs256 (aB rfl rfl rfl true (dA (a:=s.getD n 0) (b:=53) rfl rfl) (a0 (aP rfl (i8 (T:=a6×Bool) (fun⟨wr,od⟩=> [(1,.int .i64 n),(2,.pointer (some ⟨g1,0,none⟩)),(6,.string (a8 s)),(7,.int .i64 ((s.length-1:Nat):Int)),(8,.slice (some ⟨g9,0,none⟩) n n),(10,.bool od)]) (fun⟨wr,od⟩=>wr) (fun⟨wr,od⟩=>(Ext w wr)∧(Bk wr g9 5 ((aV n (dS M n)).map B8))∧(Bk wr g1 24 [.bool sa,.slice Aa na ca])∧(od=decide (dS M n%2=1))) ?_ ?_))))))
       · 
        have hod:(aV n (dS M n)).getD (n-1) 0%2=dS M n%2:=by rw [mE (by omega),Nat.sub_self,Nat.pow_zero,Nat.div_one];omega
        have hod8:(aV n (dS M n)).getD (n-1) 0≤255:=by have:=tT _ (jF (l:=aV n (dS M n)) (i:=n-1) (by rw [d5];omega));omega
        by_cases hodd:((aV n (dS M n)).getD (n-1) 0)%2=1
        · 
         refine a7 (mv 2 rfl (aE rfl rfl rfl ((n-1:Nat):Int) (eR (a:=n) (b:=1) rfl rfl) (bT rfl rfl rfl fM fF (n-1) rfl ⟨g9,n-1,none⟩ (dP _ _) (aS rfl rfl (vO qX hb (by rw [(d5 _ _)];omega)) (bS rfl rfl rfl (r:= .int .u8 ((((aV n (dS M n)).getD (n-1) 0)%2:Nat):Int)) rfl (fun w=>FI (x:=(aV n (dS M n)).getD (n-1) 0) (by omega) _ _ w) (aB rfl rfl rfl true (dA (a:=((aV n (dS M n)).getD (n-1) 0)%2) (b:=1) rfl rfl) (mv 1 rfl (aU (dG (⟨wr,true⟩:a6×Bool) ⟨hw1,hb,hbx,(by rw [decide_eq_true (by omega)])⟩ rfl ⟨rfl,rfl,rfl,rfl,rfl,rfl,trivial⟩)))))))))
        · 
         refine a7 (mv 2 rfl (aE rfl rfl rfl ((n-1:Nat):Int) (eR (a:=n) (b:=1) rfl rfl) (bT rfl rfl rfl fM fF (n-1) rfl ⟨g9,n-1,none⟩ (dP _ _) (aS rfl rfl (vO qX hb (by rw [(d5 _ _)];omega)) (bS rfl rfl rfl (r:= .int .u8 ((((aV n (dS M n)).getD (n-1) 0)%2:Nat):Int)) rfl (fun w=>FI (x:=(aV n (dS M n)).getD (n-1) 0) (by omega) _ _ w) (aB rfl rfl rfl false (dC (a:=((aV n (dS M n)).getD (n-1) 0)%2) (b:=1) rfl rfl) (mv 1 rfl (aU (dG (⟨wr,false⟩:a6×Bool) ⟨hw1,hb,hbx,(by rw [decide_eq_false (by omega)])⟩ rfl ⟨rfl,rfl,rfl,rfl,rfl,rfl,trivial⟩)))))))))
       · 
        rintro⟨wr,od⟩ ⟨hw1,hb,hbx,hod⟩
        refine cC [(1,.int .i64 n),(2,.pointer (some ⟨g1,0,none⟩)),(6,.string (a8 s)),(7,.int .i64 ((s.length-1:Nat):Int)),(8,.slice (some ⟨g9,0,none⟩) n n),(10,.bool od)] wr rfl ⟨rfl,rfl,rfl,rfl,rfl,rfl,trivial⟩ (aA ?_)
        have hr256:∀b,b∈s.drop (n+1)→b<256:=fun b hb=>hs256 b (gK hb)
        have hrl:(s.drop (n+1)).length=s.length-(n+1):=cV
        refine a7 (mv 2 rfl (aE rfl rfl rfl ((n+1:Nat):Int) (bF (a:=n) (b:=1) rfl rfl) (mK (bs:=s) (i:=n+1) rfl rfl rfl Tryz.underlying9 (F4 (bs:=s.drop (n+1)) rfl rfl Tryz.underlying9 (by decide) fun g37 v38 hg39 it40 e41=>?_))))
        have ge42:w.heap.size≤g37:=by rw [←hg39];exact hw1.size
        have q43:g9<g37:=by rw [←hg39];exact (hb).lt
        have q44:g1<g37:=by rw [←hg39];exact (hbx).lt
        clear hg39
        have hw2:=hw1.trans e41
        refine a0 (bG ?_)
        refine d4 (T:=a6×Nat×Bool)
         (fun⟨wr,p,mo⟩=> [(1,.int .i64 n),(2,.pointer (some ⟨g1,0,none⟩)),(6,.string (a8 s)),(7,.int .i64 ((s.length-1:Nat):Int)),(8,.slice (some ⟨g9,0,none⟩) n n),(10,.bool mo),(73,.pointer (some ⟨g37,0,none⟩))])
         (fun⟨wr,p,mo⟩=>wr)
         (fun⟨wr,p,mo⟩=>(Ext w wr)∧(Bk wr g9 5 ((aV n (dS M n)).map B8))∧(Bk wr g1 24 [.bool sa,.slice Aa na ca])∧(It wr g37 (s.drop (n+1)) p)∧(p≤(s.drop (n+1)).length)∧(mo=true↔od=true∨∃i,i<p∧(s.drop (n+1)).getD i 0≠48))
         (fun⟨wr,p,mo⟩=>(s.drop (n+1)).length-p)
         (⟨v38,0,od⟩:a6×Nat×Bool) ⟨hw2,(hb.ext e41),(hbx.ext e41),it40,(bW _),(by simp)⟩ rfl ⟨rfl,rfl,rfl,rfl,rfl,rfl,rfl,trivial⟩ ?_
        rintro⟨wr,p,mo⟩ ⟨hw1,hb,hbx,hit,hp,hmo⟩
        refine cC [(1,.int .i64 n),(2,.pointer (some ⟨g1,0,none⟩)),(6,.string (a8 s)),(7,.int .i64 ((s.length-1:Nat):Int)),(8,.slice (some ⟨g9,0,none⟩) n n),(10,.bool mo),(73,.pointer (some ⟨g37,0,none⟩))] wr rfl ⟨rfl,rfl,rfl,rfl,rfl,rfl,rfl,trivial⟩ (aA ?_)
        by_cases hlt:p<(s.drop (n+1)).length
        · 
         have hc128:(s.drop (n+1)).getD p 0<128:=by have:=jF hlt;have:=(hsd▸(fun c (hc:c∈s)=>hc):∀c,c∈s→c∈aV (kL+1) M) _ (gK this);have:=kU this;omega
         refine a7 ?_
         have it45:=hit
         refine F7 rfl rfl hr256 it45 (by omega) (by decide) fun v46 r47 z48 hr49 it50 u51=>?_
         have hw2:=u51.ext hw1 ge42
         obtain⟨rfl,rfl⟩:=hr49.low (by omega)
         refine pu (v:= .bool true) rfl (a0 (aA (aP rfl (aN (aD (bG (sr (pu (v:= .int .i32 (((s.drop (n+1)).getD p 0:Nat):Int)) rfl (mv 1 rfl (a0 ?_))))))))))
         cases mo
         · 
          by_cases hne:(s.drop (n+1)).getD p 0≠48
          · 
           refine a7 (mv 3 rfl (aB rfl rfl rfl true (wC (a:=(s.drop (n+1)).getD p 0) (b:=48) rfl rfl) (pu (v:= .bool true) rfl (mv 1 rfl (aU (cA (cH (⟨v46,p+1,true⟩:a6×Nat×Bool) ⟨hw2,(hb.updN u51 (by omega)),(hbx.updN u51 (by omega)),it50,(by omega),(K8 (bR hne))⟩ (show (s.drop (n+1)).length-(p+1)<(s.drop (n+1)).length-p by omega) rfl ⟨rfl,rfl,rfl,rfl,rfl,rfl,rfl,trivial⟩)))))))
          · 
           refine a7 (mv 3 rfl (aB rfl rfl rfl false (lU (a:=(s.drop (n+1)).getD p 0) (b:=48) rfl rfl) (pu (v:= .bool false) rfl (mv 1 rfl (aU (cA (cH (⟨v46,p+1,false⟩:a6×Nat×Bool) ⟨hw2,(hb.updN u51 (by omega)),(hbx.updN u51 (by omega)),it50,(by omega),(WZ hmo (by omega))⟩ (show (s.drop (n+1)).length-(p+1)<(s.drop (n+1)).length-p by omega) rfl ⟨rfl,rfl,rfl,rfl,rfl,rfl,rfl,trivial⟩)))))))
         · 
          refine a7 (mv 4 rfl (pu (v:= .bool true) rfl (mv 1 rfl (aU (cA (cH (⟨v46,p+1,true⟩:a6×Nat×Bool) ⟨hw2,(hb.updN u51 (by omega)),(hbx.updN u51 (by omega)),it50,(by omega),(K8 (cE (hmo.1 rfl)))⟩ (show (s.drop (n+1)).length-(p+1)<(s.drop (n+1)).length-p by omega) rfl ⟨rfl,rfl,rfl,rfl,rfl,rfl,rfl,trivial⟩))))))
        · 
         have hpe:p=(s.drop (n+1)).length:=by omega
         subst hpe
         have hrest:=T6 hsd (show n<kL+1 by omega)
         refine a7 ?_
         have it52:=hit
         refine F6 rfl rfl it52 (by omega) (by decide) (pu (v:= .bool false) rfl (a0 (aA (aI rfl (cR (cN (cP (cQ (dG (⟨wr,mo⟩:a6×Bool) ⟨hw1,hb,hbx,(by rw [hLn,SG h5,←hsv,hmo,hod,decide_eq_true_eq,hrest])⟩ rfl ⟨rfl,rfl,rfl,rfl,rfl,trivial⟩)))))))))
      · 
       refine a7 (mv 2 rfl (dK (bs:=s) (i:=n) rfl rfl rfl Tryz.underlying9 hs256 (aB rfl rfl rfl false (dC (a:=s.getD n 0) (b:=53) rfl rfl) (a0 (aI rfl (aN (dG (⟨wr,false⟩:a6×Bool) ⟨hw1,hb,hbx,(by rw [hLn];exact⟨fun h=>(by cases h),fun h=>absurd h (SE (by omega))⟩)⟩ rfl ⟨rfl,rfl,rfl,rfl,rfl,trivial⟩)))))))
     · 
      rintro⟨wr,mo⟩ ⟨hw1,hb,hbx,hmo⟩
      refine cC [(1,.int .i64 n),(2,.pointer (some ⟨g1,0,none⟩)),(7,.int .i64 ((s.length-1:Nat):Int)),(8,.slice (some ⟨g9,0,none⟩) n n),(10,.bool mo)] wr rfl ⟨rfl,rfl,rfl,rfl,rfl,trivial⟩ (aA ?_)
      cases mo
      · 
       have hsq:=BP (fun h=>by have:=hmo.2 h.2;cases this) hM0 hn1
       refine a7 (mv 4 rfl (pu (v:= .bool false) rfl (a0 (aI rfl (aN (dG (⟨wr,s.length-1,fX M n⟩:a6×Nat×Nat) ⟨hw1,(by rw [hsq.1];exact hb),hbx,(by rw [hsq.2,hkL,hsl]),rfl,(by omega)⟩ rfl ⟨rfl,rfl,rfl,rfl,trivial⟩))))))
      · 
       have hr:=hmo.1 rfl
       by_cases hov:dS M n+1=10^n
       · 
        have hsq:=GP ⟨hnL,hr⟩ hov
        refine a7 (mv 3 rfl (dD rfl rfl (vs:= [.slice (some ⟨g9,0,none⟩) n n]) (by kernel_rfl) (by decide) (yU hb (mN hM0 hn1).1 hn1) ?_))
        rintro _ v53 ⟨rfl,u54,hb55⟩
        refine dE ?_
        rw [decide_eq_true hov]
        have hw2:=u54.ext hw1 ge14
        refine pu (v:= .bool true) rfl (a0 (aP rfl (sr (mv 1 rfl (bT rfl rfl rfl fM fF 0 rfl ⟨g9,0,none⟩ (dP _ _) (eB rfl rfl rfl fF rfl hb55 (fK (by rw [(d5 _ _)];omega)) rfl (((aV n (dS M n+1)).set 0 49).map B8) (pA _ _ _) fun v56 hb58 u59 hs60=>?_))))))
        have hw3:=u59.ext hw2 ge14
        refine a0 (a7 (mv 1 rfl (aE rfl rfl rfl (((s.length-1)+1:Nat):Int) (bF (a:=s.length-1) (b:=1) rfl rfl) (mv 1 rfl (aU (dG (⟨v56,(s.length-1)+1,fX M n⟩:a6×Nat×Nat) ⟨hw3,(by rw [hsq.1,←M2 hn1,←hov];exact hb58),((hbx.updN u54 (by omega)).updN u59 (by omega)),(by rw [hsq.2,hkL,hsl];omega),rfl,(by omega)⟩ rfl ⟨rfl,rfl,rfl,rfl,trivial⟩))))))
       · 
        have hsq:=GO ⟨hnL,hr⟩ hov
        refine a7 (mv 3 rfl (dD rfl rfl (vs:= [.slice (some ⟨g9,0,none⟩) n n]) (by kernel_rfl) (by decide) (yU hb (mN hM0 hn1).1 hn1) ?_))
        rintro _ v61 ⟨rfl,u62,hb63⟩
        refine dE ?_
        rw [decide_eq_false hov]
        have hw2:=u62.ext hw1 ge14
        refine pu (v:= .bool false) rfl (a0 (aI rfl (aN (dG (⟨v61,s.length-1,fX M n⟩:a6×Nat×Nat) ⟨hw2,(by rw [hsq.1];exact hb63),(hbx.updN u62 (by omega)),(by rw [hsq.2,hkL,hsl]),rfl,(by omega)⟩ rfl ⟨rfl,rfl,rfl,rfl,trivial⟩))))
   · 
    have hnL:¬(n<dL M∧gG M (dL M-n)):=fun h=>by have:=h.1;rw [hkL] at this;omega
    have hsq:=BP hnL hM0 hn1
    refine a7 (mv 1 rfl (bD rfl rfl (v:= .int .i64 (((a8 s).size:Nat):Int)) (v':= .int .i64 ((s.length:Nat):Int)) (by rw [cM]) (mv 1 rfl (aB rfl rfl rfl false (d6 (a:=s.length) (b:=n) rfl rfl) (a0 (aI rfl (aN (dG (⟨wr,s.length-1,fX M n⟩:a6×Nat×Nat) ⟨hw1,(by rw [hsq.1];exact hb),hbx,(by rw [hsq.2,hkL,hsl]),rfl,(by omega)⟩ rfl ⟨rfl,rfl,rfl,rfl,trivial⟩))))))))
  · 
   rintro⟨wr,X,Q⟩ ⟨hw1,hb,hbx,hX,hQ,hXl⟩
   refine cC [(1,.int .i64 n),(2,.pointer (some ⟨g1,0,none⟩)),(7,.int .i64 X),(8,.slice (some ⟨g9,0,none⟩) n n)] wr rfl ⟨rfl,rfl,rfl,rfl,trivial⟩ (sr (mv 1 rfl (a0 (aA (aA ?_)))))
   by_cases hx0:x<0
   · 
    refine a7 (lo bO hbx [.bool sa,.slice Aa na ca] rfl rfl rfl (cl (vs:= [.agg #[.bool sa,.slice Aa na ca]]) hw1 (o8 (hx.ext hw1) (bQ la rfl)) rfl (by kernel_rfl) fun xr66 v64 r66 e65 hw2=>?_))
    obtain rfl:=r66
    refine aB rfl rfl rfl true (GK hx0) (a0 (aP rfl (a7 (mv 1 rfl (a0 (aA ?_))))))
    have hT17:True:=trivial
    refine a7 (mv 2 rfl ?_)
    have rb67:Rb 256 v64 (some ⟨g9,0,none⟩:Option aC) n n (aV n Q):=zT (hb.ext e65) (d5 _ _) tT
    refine jT rfl rfl fM fF (lo:=0) (hi:=1) rfl rfl (by omega) (by have:=rb67.rv.le;omega) (v:= .slice (some ⟨g9,0,none⟩:Option aC) 1 n) (oT _ _ _) (by decide) (wX (bs:=(aV n Q).take 1) rfl rfl ((rb67.take (k:=1) (by omega))).rv (bS rfl rfl rfl (r:= .string (a8 (([45])++((aV n Q).take 1)))) rfl (fun w=>d8 (a:= [45]) (b:=(aV n Q).take 1) (by have:=hT17;simp only [bJ,cO,List.length_nil,d5];omega)) (mv 1 rfl (a0 (aA (aA ?_))))))
    by_cases hn2:n>1
    · 
     refine a7 (mv 1 rfl (aB rfl rfl rfl true (dJ (a:=n) (b:=1) rfl rfl) (a0 (aP rfl (a7 (mv 2 rfl ?_))))))
     have rb68:Rb 256 v64 (some ⟨g9,0,none⟩:Option aC) n n (aV n Q):=zT (hb.ext e65) (d5 _ _) tT
     refine jT rfl rfl fM fF (lo:=1) (hi:=n) rfl rfl (by omega) (by have:=rb68.rv.le;omega) (v:= .slice (if n=1 then (some ⟨g9,0,none⟩:Option aC) else (some ⟨g9,0,none⟩:Option aC).map (·.add (1*1))) (n-1) (n-1)) (uR _ _ _ _) (by decide) (wX (bs:=(aV n Q).drop 1) rfl rfl ((rb68.drop (k:=1) (by omega))).rv (bS rfl rfl rfl (r:= .string (a8 (([46])++((aV n Q).drop 1)))) rfl (fun w=>d8 (a:= [46]) (b:=(aV n Q).drop 1) (by have:=hT17;simp only [cV,cO,List.length_nil,d5];omega)) (bS rfl rfl rfl (r:= .string (a8 ((([45])++((aV n Q).take 1))++(([46])++((aV n Q).drop 1))))) rfl (fun w=>d8 (a:=([45])++((aV n Q).take 1)) (b:=([46])++((aV n Q).drop 1)) (by have:=hT17;simp only [cL,bJ,cV,cO,List.length_nil,d5];omega)) (mv 1 rfl (a0 (aA ?_))))))
     have hT17:(bB 10 X).length≤65:=pZ (b:=10) (n:=1) (pC)
     refine a7 (mv 1 rfl (bS rfl rfl rfl (r:= .string (a8 (((([45])++((aV n Q).take 1))++(([46])++((aV n Q).drop 1)))++([101])))) rfl (fun w=>d8 (a:=(([45])++((aV n Q).take 1))++(([46])++((aV n Q).drop 1))) (b:= [101]) (by have:=hT17;simp only [cL,bJ,cV,cO,List.length_nil,d5];omega)) (mv 1 rfl (cl (vs:= [.int .i64 X]) hw2 (yT hw2.size (by omega) (by omega)) rfl (by kernel_rfl) fun xr71 v69 r71 eH hw3=>?_))))
     obtain⟨s72,A72,n72,c72,rfl,z72⟩:=r71
     refine cl (vs:= [.agg #[.bool s72,.slice A72 n72 c72]]) hw3 (yS z72.zi (z72.le (aG (show ln ((X:Nat):Int)≤1 by rw [qQ];exact pC) (by decide))) (hS.ext hw3)) rfl (by kernel_rfl) fun xr75 v73 r75 bM hw4=>?_
     obtain rfl:=r75
     refine bS rfl rfl rfl (r:= .string (a8 ((((([45])++((aV n Q).take 1))++(([46])++((aV n Q).drop 1)))++([101]))++(bB 10 X)))) rfl (fun w=>d8 (a:=((([45])++((aV n Q).take 1))++(([46])++((aV n Q).drop 1)))++([101])) (b:=bB 10 X) (by have:=hT17;simp only [cL,bJ,cV,cO,List.length_nil,d5];omega)) (mv 2 rfl (a0 (aM (aL [.string (a8 ((((([45])++((aV n Q).take 1))++(([46])++((aV n Q).drop 1)))++([101]))++(bB 10 X))),I0] rfl ⟨rfl,rfl,trivial⟩ ?_))))
     have ht:((((([45])++((aV n Q).take 1))++(([46])++((aV n Q).drop 1)))++([101]))++(bB 10 X):List Nat)=eJ x n:=by unfold eJ q9;rw [if_neg hx00,if_pos hx0,←hM,←hX,←hQ];rw [if_pos (show 1<n by omega)];simp only [List.append_assoc]
     exact⟨_,rfl,⟨_,_,rfl,(show Value.string _=Value.string _ from congrArg (fun l=>Value.string (a8 l)) ht),rfl⟩,hw4⟩
    · 
     refine a7 (mv 1 rfl (aB rfl rfl rfl false (d6 (a:=n) (b:=1) rfl rfl) (a0 (aI rfl (aN (aD (aA ?_)))))))
     have hT17:(bB 10 X).length≤65:=pZ (b:=10) (n:=1) (pC)
     refine a7 (mv 1 rfl (bS rfl rfl rfl (r:= .string (a8 ((([45])++((aV n Q).take 1))++([101])))) rfl (fun w=>d8 (a:=([45])++((aV n Q).take 1)) (b:= [101]) (by have:=hT17;simp only [cL,bJ,cO,List.length_nil,d5];omega)) (mv 1 rfl (cl (vs:= [.int .i64 X]) hw2 (yT hw2.size (by omega) (by omega)) rfl (by kernel_rfl) fun xr78 v76 r78 e77 hw3=>?_))))
     obtain⟨s79,A79,n79,c79,rfl,z79⟩:=r78
     refine cl (vs:= [.agg #[.bool s79,.slice A79 n79 c79]]) hw3 (yS z79.zi (z79.le (aG (show ln ((X:Nat):Int)≤1 by rw [qQ];exact pC) (by decide))) (hS.ext hw3)) rfl (by kernel_rfl) fun xr82 v80 r82 e81 hw4=>?_
     obtain rfl:=r82
     refine bS rfl rfl rfl (r:= .string (a8 (((([45])++((aV n Q).take 1))++([101]))++(bB 10 X)))) rfl (fun w=>d8 (a:=(([45])++((aV n Q).take 1))++([101])) (b:=bB 10 X) (by have:=hT17;simp only [cL,bJ,cO,List.length_nil,d5];omega)) (mv 2 rfl (a0 (aM (aL [.string (a8 (((([45])++((aV n Q).take 1))++([101]))++(bB 10 X))),I0] rfl ⟨rfl,rfl,trivial⟩ ?_))))
     have ht:(((([45])++((aV n Q).take 1))++([101]))++(bB 10 X):List Nat)=eJ x n:=by unfold eJ q9;rw [if_neg hx00,if_pos hx0,←hM,←hX,←hQ];rw [if_neg (show¬1<n by omega)];simp only [List.append_assoc,mJ]
     exact⟨_,rfl,⟨_,_,rfl,(show Value.string _=Value.string _ from congrArg (fun l=>Value.string (a8 l)) ht),rfl⟩,hw4⟩
   · 
    refine a7 (lo bO hbx [.bool sa,.slice Aa na ca] rfl rfl rfl (cl (vs:= [.agg #[.bool sa,.slice Aa na ca]]) hw1 (o8 (hx.ext hw1) (bQ la rfl)) rfl (by kernel_rfl) fun xr85 v83 r85 e84 hw2=>?_))
    obtain rfl:=r85
    refine aB rfl rfl rfl false (GL (by omega)) (a0 (aI rfl (aN (aD (aA ?_)))))
    have hT17:True:=trivial
    refine a7 (mv 2 rfl ?_)
    have rb86:Rb 256 v83 (some ⟨g9,0,none⟩:Option aC) n n (aV n Q):=zT (hb.ext e84) (d5 _ _) tT
    refine jT rfl rfl fM fF (lo:=0) (hi:=1) rfl rfl (by omega) (by have:=rb86.rv.le;omega) (v:= .slice (some ⟨g9,0,none⟩:Option aC) 1 n) (oT _ _ _) (by decide) (wX (bs:=(aV n Q).take 1) rfl rfl ((rb86.take (k:=1) (by omega))).rv (bS rfl rfl rfl (r:= .string (a8 (([])++((aV n Q).take 1)))) rfl (fun w=>d8 (a:= []) (b:=(aV n Q).take 1) (by have:=hT17;simp only [bJ,List.length_nil,d5];omega)) (mv 1 rfl (a0 (aA (aA ?_))))))
    by_cases hn2:n>1
    · 
     refine a7 (mv 1 rfl (aB rfl rfl rfl true (dJ (a:=n) (b:=1) rfl rfl) (a0 (aP rfl (a7 (mv 2 rfl ?_))))))
     have rb87:Rb 256 v83 (some ⟨g9,0,none⟩:Option aC) n n (aV n Q):=zT (hb.ext e84) (d5 _ _) tT
     refine jT rfl rfl fM fF (lo:=1) (hi:=n) rfl rfl (by omega) (by have:=rb87.rv.le;omega) (v:= .slice (if n=1 then (some ⟨g9,0,none⟩:Option aC) else (some ⟨g9,0,none⟩:Option aC).map (·.add (1*1))) (n-1) (n-1)) (uR _ _ _ _) (by decide) (wX (bs:=(aV n Q).drop 1) rfl rfl ((rb87.drop (k:=1) (by omega))).rv (bS rfl rfl rfl (r:= .string (a8 (([46])++((aV n Q).drop 1)))) rfl (fun w=>d8 (a:= [46]) (b:=(aV n Q).drop 1) (by have:=hT17;simp only [cV,cO,List.length_nil,d5];omega)) (bS rfl rfl rfl (r:= .string (a8 ((([])++((aV n Q).take 1))++(([46])++((aV n Q).drop 1))))) rfl (fun w=>d8 (a:=([])++((aV n Q).take 1)) (b:=([46])++((aV n Q).drop 1)) (by have:=hT17;simp only [cL,bJ,cV,cO,List.length_nil,d5];omega)) (mv 1 rfl (a0 (aA ?_))))))
     have hT17:(bB 10 X).length≤65:=pZ (b:=10) (n:=1) (pC)
     refine a7 (mv 1 rfl (bS rfl rfl rfl (r:= .string (a8 (((([])++((aV n Q).take 1))++(([46])++((aV n Q).drop 1)))++([101])))) rfl (fun w=>d8 (a:=(([])++((aV n Q).take 1))++(([46])++((aV n Q).drop 1))) (b:= [101]) (by have:=hT17;simp only [cL,bJ,cV,cO,List.length_nil,d5];omega)) (mv 1 rfl (cl (vs:= [.int .i64 X]) hw2 (yT hw2.size (by omega) (by omega)) rfl (by kernel_rfl) fun xr90 v88 r90 e89 hw3=>?_))))
     obtain⟨s91,A91,n91,c91,rfl,z91⟩:=r90
     refine cl (vs:= [.agg #[.bool s91,.slice A91 n91 c91]]) hw3 (yS z91.zi (z91.le (aG (show ln ((X:Nat):Int)≤1 by rw [qQ];exact pC) (by decide))) (hS.ext hw3)) rfl (by kernel_rfl) fun xr94 v92 r94 e93 hw4=>?_
     obtain rfl:=r94
     refine bS rfl rfl rfl (r:= .string (a8 ((((([])++((aV n Q).take 1))++(([46])++((aV n Q).drop 1)))++([101]))++(bB 10 X)))) rfl (fun w=>d8 (a:=((([])++((aV n Q).take 1))++(([46])++((aV n Q).drop 1)))++([101])) (b:=bB 10 X) (by have:=hT17;simp only [cL,bJ,cV,cO,List.length_nil,d5];omega)) (mv 2 rfl (a0 (aM (aL [.string (a8 ((((([])++((aV n Q).take 1))++(([46])++((aV n Q).drop 1)))++([101]))++(bB 10 X))),I0] rfl ⟨rfl,rfl,trivial⟩ ?_))))
     have ht:((((([])++((aV n Q).take 1))++(([46])++((aV n Q).drop 1)))++([101]))++(bB 10 X):List Nat)=eJ x n:=by unfold eJ q9;rw [if_neg hx00,if_neg hx0,←hM,←hX,←hQ];rw [if_pos (show 1<n by omega)];simp only [List.append_assoc,List.nil_append]
     exact⟨_,rfl,⟨_,_,rfl,(show Value.string _=Value.string _ from congrArg (fun l=>Value.string (a8 l)) ht),rfl⟩,hw4⟩
    · 
     refine a7 (mv 1 rfl (aB rfl rfl rfl false (d6 (a:=n) (b:=1) rfl rfl) (a0 (aI rfl (aN (aD (aA ?_)))))))
     have hT17:(bB 10 X).length≤65:=pZ (b:=10) (n:=1) (pC)
     refine a7 (mv 1 rfl (bS rfl rfl rfl (r:= .string (a8 ((([])++((aV n Q).take 1))++([101])))) rfl (fun w=>d8 (a:=([])++((aV n Q).take 1)) (b:= [101]) (by have:=hT17;simp only [cL,bJ,cO,List.length_nil,d5];omega)) (mv 1 rfl (cl (vs:= [.int .i64 X]) hw2 (yT hw2.size (by omega) (by omega)) rfl (by kernel_rfl) fun xr97 v95 r97 e96 hw3=>?_))))
     obtain⟨s98,A98,n98,c98,rfl,z98⟩:=r97
     refine cl (vs:= [.agg #[.bool s98,.slice A98 n98 c98]]) hw3 (yS z98.zi (z98.le (aG (show ln ((X:Nat):Int)≤1 by rw [qQ];exact pC) (by decide))) (hS.ext hw3)) rfl (by kernel_rfl) fun xr101 v99 r101 e100 hw4=>?_
     obtain rfl:=r101
     refine bS rfl rfl rfl (r:= .string (a8 (((([])++((aV n Q).take 1))++([101]))++(bB 10 X)))) rfl (fun w=>d8 (a:=(([])++((aV n Q).take 1))++([101])) (b:=bB 10 X) (by have:=hT17;simp only [cL,bJ,cO,List.length_nil,d5];omega)) (mv 2 rfl (a0 (aM (aL [.string (a8 (((([])++((aV n Q).take 1))++([101]))++(bB 10 X))),I0] rfl ⟨rfl,rfl,trivial⟩ ?_))))
     have ht:(((([])++((aV n Q).take 1))++([101]))++(bB 10 X):List Nat)=eJ x n:=by unfold eJ q9;rw [if_neg hx00,if_neg hx0,←hM,←hX,←hQ];rw [if_neg (show¬1<n by omega)];simp only [List.append_assoc,List.nil_append,mJ]
     exact⟨_,rfl,⟨_,_,rfl,(show Value.string _=Value.string _ from congrArg (fun l=>Value.string (a8 l)) ht),rfl⟩,hw4⟩
theorem DG:∀{i:Nat},53::bP i 48=aV (i+1) (5*10^i)
 | 0=>rfl
 | i+1=>by
  rw [List.replicate_succ',←j8,DG (i:=i)]
  conv=>rhs;rw [aV]
  have e:5*10^(i+1)=5*10^i*10:=by rw [cB,bH]
  rw [e,nG _ (by decide),Nat.mul_mod_left]
theorem HW (hj:0<j):(!(mA (aV j m) (aV j (5*10^(j-1)))||decide (aV j m=aV j (5*10^(j-1)))))=decide (10^j<2*(m%10^j)):=by
 obtain⟨i,rfl⟩:∃i,j=i+1:=⟨j-1,by omega⟩
 rw [kI,←DE (v:=m)]
 have hp:10^(i+1)=10*10^i:=by rw [cB,bY]
 have h10:=jU i
 have h1:=eO m (jU (i+1))
 have h2:5*10^i<10^(i+1):=by omega
 rw [K9 h1 h2]
 have e:(aV (i+1) (m%10^(i+1))=aV (i+1) (5*10^i))↔m%10^(i+1)=5*10^i:=⟨fun h=>zL h1 h2 h,fun h=>by rw [h]⟩
 simp only [e]
 rw [Bool.eq_iff_iff]
 simp only [Bool.not_eq_true',Bool.or_eq_false_iff,decide_eq_true_eq,decide_eq_false_iff_not]
 omega
theorem I1 (hj:0<j):(aV j m=aV j (5*10^(j-1)))↔10^j=2*(m%10^j):=by
 obtain⟨i,rfl⟩:∃i,j=i+1:=⟨j-1,by omega⟩
 rw [kI,←DE (v:=m)]
 have hp:10^(i+1)=10*10^i:=by rw [cB,bY]
 have h10:=jU i
 have h1:=eO m (jU (i+1))
 have h2:5*10^i<10^(i+1):=by omega
 exact⟨fun h=>by have:=zL h1 h2 h;omega,fun h=>by rw [show m%10^(i+1)=5*10^i by omega]⟩
theorem tQ:∀{k a v:Nat},(aV (a+k) v).take a=aV a (v/10^k)
 | 0,a,v=>by rw [dN,Nat.pow_zero,Nat.div_one,List.take_of_length_le (by rw [d5];exact b8 _)]
 | k+1,a,v=>by
  rw [show a+(k+1)=(a+k)+1 by omega,aV,List.take_append_of_le_length (by rw [d5];omega),tQ,Nat.div_div_eq_div_mul,cB,bY 10]
theorem M1:∀{k a v:Nat},aV a v++bP k 48=aV (a+k) (v*10^k)
 | 0,a,v=>by rw [List.replicate_zero,mJ,Nat.pow_zero,cI,dN]
 | k+1,a,v=>by
  rw [List.replicate_succ',←List.append_assoc,M1 (k:=k),show a+(k+1)=(a+k)+1 by omega]
  conv=>rhs;rw [aV]
  have e:v*10^(k+1)=v*10^k*10:=by rw [cB,bH]
  rw [e,nG _ (by decide),Nat.mul_mod_left]
theorem jL {w:a6}(hs:s=bB 10 m)(hx:Wi w A an ac m)(hal:an≤1048576:=by omega):aO aF 191 #[.slice A an ac] w (Gv w (Is (.string (a8 s)))):=by subst hs;exact I2 hx hal
theorem U4 {w:a6}{v:Nat}{t:List Nat}(ht:t=bB 10 (v+1))(hn:n≤40)(hn1:1≤n)(hv:v<10^n):aO aF 219 #[.string (a8 (aV n v))] w (Gv w (Is (.string (a8 t)))):=by
 subst ht
 have hd:Digs (aV n v):=fun c hc=>kU hc
 refine U5 (fun c hc=>by have:=hd c hc;omega) (by rw [d5];omega) (hd.good fun e=>by have:=congrArg List.length e;rw [d5] at this;simp at this;omega) (LZ hv) ?_
 refine aG (gZ (Nat.le_of_lt hv)) (aG (kA (n:=n)) (by omega))
theorem GN (he:dL m=k+1):(k+1<n→(aV (k+1) m++bP (n-(k+1)) 48)=aV n (dS m n))∧(¬k+1<n→(aV (k+1) m).take n=aV n (dS m n)):=by
 unfold dS
 rw [he]
 constructor
 ·intro h
  rw [if_pos (by omega),M1,show k+1+(n-(k+1))=n by omega]
 ·intro h
  have e:k+1=n+(k+1-n):=by omega
  by_cases h1:k+1≤n
  ·rw [if_pos h1,show n-(k+1)=0 by omega,Nat.pow_zero,cI,show k+1=n by omega,List.take_of_length_le (by rw [d5];exact b8 _)]
  ·rw [if_neg h1]
   conv=>lhs;rw [e]
   rw [tQ]
theorem RR (h:¬k+1<n):(aV (k+1) m).drop n=aV (k+1-n) m:=by
 have e:k+1=n+(k+1-n):=by omega
 conv=>lhs;rw [e]
 rw [DH]
theorem GQ (he:dL m=k+1)(h:n<k+1)(hn:1≤n):(aV n (dS m n)).getD (n-1) 0%2=m/10^(k+1-n)%2:=by
 rw [mE (by omega)]
 unfold dS
 rw [he,if_neg (by omega),show n-1-(n-1)=0 by omega,Nat.pow_zero,Nat.div_one]
 omega
theorem xP (_hn:1≤n):q9 q n=if 1<n then ((aV n q).take 1++ [46])++(aV n q).drop 1 else (aV n q).take 1:=by
 unfold q9
 split
 ·rw [List.append_assoc]
 ·rw [mJ]
theorem sY (h0:0<m)(hn:1≤n)(h:¬(n<dL m∧gG m (dL m-n))):aV n (dS m n)=if gF m n=10^n then aV (n+1) (10^n) else aV n (gF m n):=by
 have hv:=mN h0 hn
 have e:gF m n=dS m n:=by unfold gF;rw [if_neg h]
 rw [e,if_neg (by omega)]
theorem xQ (h0:0<m)(hn:1≤n)(h:n<dL m∧gG m (dL m-n)):bB 10 (dS m n+1)=if gF m n=10^n then aV (n+1) (10^n) else aV n (gF m n):=by
 have hv:=mN h0 hn
 have e:gF m n=dS m n+1:=by unfold gF;rw [if_pos h]
 rw [e]
 by_cases h1:dS m n+1=10^n
 ·rw [if_pos h1,h1]
  exact uN (jU n) (b8 _) (Nat.pow_lt_pow_right (by decide) (by omega))
 ·rw [if_neg h1]
  obtain⟨j,rfl⟩:∃j,n=j+1:=⟨n-1,by omega⟩
  rw [kI] at hv
  exact uN (by omega) (by omega) (by omega)
theorem yC {w:a6}{v:Nat}{t:List Nat}(hs:s=aV n v)(ht:t=bB 10 (v+1))(hn:n≤40)(hn1:1≤n)(hv:v<10^n):aO aF 219 #[.string (a8 s)] w (Gv w (Is (.string (a8 t)))):=by subst hs;exact U4 ht hn hn1 hv
theorem xE (hn:1≤n):10^n/10^1=10^(n-1):=by
 obtain⟨j,rfl⟩:∃j,n=j+1:=⟨n-1,by omega⟩
 rw [kI,cB,Nat.pow_one,nG _ (by decide)]
theorem k6 (X:Nat)(h:X≤67108866):(bB 10 X).length≤100:=by
 have h1:ln ((X:Nat):Int)≤1:=by rw [qQ];exact fY (by rw [cF,Nat.pow_one];omega)
 have h2:=pZ (b:=10) (n:=1) (m:=X) (by rw [qQ] at h1;exact h1)
 omega
set_option maxHeartbeats 8000000 in
theorem UO {w:a6}(hx:Zi w s0 A na ca x)(la:na≤1048576)(hx00:x≠0)(hn1:1≤n)(hn40:n≤40):
    aO aF 174 #[.agg #[.bool s0,.slice A na ca],.int .i64 n] w (Gv w (T2 (Is (.string (a8 (eJ x n)))) (Is (.int .i64 0)))):=by
 have Lx:ln x≤1048576:=aG hx.ln la
 have hM:0<(Int.natAbs x):=by omega
 obtain⟨k,hdL,hk1,hk2,hkt⟩:=DP hM
 have hkl:k+1≤67108865:=by have h:=pZ (b:=10) (n:=1048576) Lx;rw [hkt,d5] at h;exact h
 obtain⟨s,hs⟩:∃s,s=aV (k+1) (Int.natAbs x):=⟨_,rfl⟩
 have hsl:s.length=k+1:=by rw [hs,d5]
 have hs48:s≠ [48]:=by rw [hs,←hkt];exact FS hM
 have hs256:∀c,c∈s→c<256:=fun c hc=>by rw [hs] at hc;have:=kU hc;omega
 refine bK Tryz.func174 rfl (n:=103) rfl (bq rfl) (args:= [.agg #[.bool s0,.slice A na ca],.int .i64 n]) (bE [(0,.agg #[.bool s0,.slice A na ca]),(1,.int .i64 n)] ⟨rfl,rfl,trivial⟩ (sr (bx [.bool s0,.slice A na ca] (Ext.refl w) rfl rfl rfl fun g1 v2 hb4 ge5 e3 hw1=>(mv 2 rfl (a0 (aA (sr (mv 1 rfl (aB rfl rfl rfl false (cX (a:=n) (b:=1) rfl rfl) (mv 2 rfl (aB rfl rfl rfl false (d6 (a:=n) (b:=40) rfl rfl) (pu (v:= .bool false) rfl (aU ?_)))))))))))))
 refine aD (aI rfl (aN (aD (sr (pf g1 1 rfl (aS rfl rfl (aY eM hb4 rfl) (cl (vs:= [.slice A na ca]) hw1 (jL (s:=s) (by rw [hs,hkt]) (hx.ext hw1).wi (hal:=(bQ la rfl))) rfl (by kernel_rfl) fun xr8 v6 r8 e7 hw2=>?_)))))))
 obtain rfl:=r8
 refine mv 1 rfl (a0 (aA (sr (mv 1 rfl (fV (a:=s) (b:= [48]) rfl rfl rfl hs256 false (q7 (hs48)) (a0 (aI rfl (aN (aD (sr (mv 1 rfl (bD rfl rfl (v:= .int .i64 (((a8 s).size:Nat):Int)) (v':= .int .i64 ((s.length:Nat):Int)) (by rw [cM]) (aE rfl rfl rfl ((s.length-1:Nat):Int) (eR (a:=s.length) (b:=1) rfl rfl) ?_)))))))))))))
 refine mv 1 rfl (a0 (aA (aA ?_)))
 by_cases hpad:s.length<n
 · 
  refine a7 (mv 1 rfl (bD rfl rfl (v:= .int .i64 (((a8 s).size:Nat):Int)) (v':= .int .i64 ((s.length:Nat):Int)) (by rw [cM]) (mv 1 rfl (aB rfl rfl rfl true (dB (a:=s.length) (b:=n) rfl rfl) (a0 (aP rfl (a7 (mv 3 rfl (bD rfl rfl (v:= .int .i64 (((a8 s).size:Nat):Int)) (v':= .int .i64 ((s.length:Nat):Int)) (by rw [cM]) (aE rfl rfl rfl ((n-s.length:Nat):Int) (eR (a:=n) (b:=s.length) rfl rfl) (cl (vs:= [.int .i64 ((n-s.length:Nat):Int)]) hw2 (C6 (n:=n-s.length)) rfl (by kernel_rfl) fun xr11 v9 r11 e10 hw3=>?_)))))))))))
  obtain rfl:=r11
  refine bS rfl rfl rfl (r:= .string (a8 (s++(bP (n-s.length) 48)))) rfl (fun w=>d8 (a:=s) (b:=bP (n-s.length) 48) (by simp only [List.length_replicate];omega)) (mv 1 rfl (a0 (aA ?_)))
  have hcl:(s++(bP (n-s.length) 48)).length=n:=by simp only [cL,List.length_replicate];omega
  refine a7 (mv 2 rfl (mK (bs:=s++(bP (n-s.length) 48)) (i:=n) rfl rfl rfl Tryz.underlying9 (mv 1 rfl (a0 (i8 (T:=a6×Nat×List Nat×List Nat) (fun⟨wr,x0,s2,r⟩=> [(1,.int .i64 n),(2,.pointer (some ⟨g1,0,none⟩)),(6,.string (a8 s2)),(7,.int .i64 x0),(8,.string (a8 r))]) (fun⟨wr,x0,s2,r⟩=>wr) (fun⟨wr,x0,s2,r⟩=>(Ext w wr)∧(Bk wr g1 24 [.bool s0,.slice A na ca])∧(x0=k)∧(s2=aV n (dS (Int.natAbs x) n))∧(r=aV (k+1-n) (Int.natAbs x))) ?_ ?_)))))
  · 
   refine a7 (mv 2 rfl (lL (bs:=s++(bP (n-s.length) 48)) (i:=n) rfl rfl rfl Tryz.underlying9 (mv 1 rfl (aU (dG (⟨v9,s.length-1,(s++(bP (n-s.length) 48)).take n,(s++(bP (n-s.length) 48)).drop n⟩:a6×Nat×List Nat×List Nat) ⟨hw3,(hb4.ext (e7.trans e10)),(by omega),(by rw [List.take_of_length_le (by simp only [cL,List.length_replicate];omega),hsl,hs];exact (GN hdL).1 (by omega)),(by rw [List.drop_of_length_le (by simp only [cL,List.length_replicate];omega),show k+1-n=0 by omega];rfl)⟩ rfl ⟨rfl,rfl,rfl,rfl,rfl,trivial⟩)))))
  · 
   rintro⟨wr,x0,s2,r⟩ ⟨hw1,b_2,hx0,hs2,hr⟩
   refine cC [(1,.int .i64 n),(2,.pointer (some ⟨g1,0,none⟩)),(6,.string (a8 s2)),(7,.int .i64 x0),(8,.string (a8 r))] wr rfl ⟨rfl,rfl,rfl,rfl,rfl,trivial⟩ (sr (mv 1 rfl (a0 (aA (aA ?_)))))
   have hrl:r.length=k+1-n:=by rw [hr,d5]
   have hr256:∀c,c∈r→c<256:=fun c hc=>by rw [hr] at hc;have:=kU hc;omega
   by_cases hlong:r.length>0
   · 
    refine a7 (mv 1 rfl (bD rfl rfl (v:= .int .i64 (((a8 r).size:Nat):Int)) (v':= .int .i64 ((r.length:Nat):Int)) (by rw [cM]) (aB rfl rfl rfl true (dJ (a:=r.length) (b:=0) rfl rfl) (a0 (aP rfl (a7 (mv 2 rfl (bD rfl rfl (v:= .int .i64 (((a8 r).size:Nat):Int)) (v':= .int .i64 ((r.length:Nat):Int)) (by rw [cM]) (aE rfl rfl rfl ((r.length-1:Nat):Int) (eR (a:=r.length) (b:=1) rfl rfl) (cl (vs:= [.int .i64 ((r.length-1:Nat):Int)]) hw1 (C6 (n:=r.length-1)) rfl (by kernel_rfl) fun xr14 v12 r14 e13 hw2=>?_))))))))))
    obtain rfl:=r14
    refine bS rfl rfl rfl (r:= .string (a8 (([53])++(bP (r.length-1) 48)))) rfl (fun w=>d8 (a:= [53]) (b:=bP (r.length-1) 48) (by simp only [List.length_replicate,cO,List.length_nil];omega)) (mv 1 rfl (a0 (i8 (T:=a6×List Nat) (fun⟨wr,s3⟩=> [(1,.int .i64 n),(2,.pointer (some ⟨g1,0,none⟩)),(6,.string (a8 s3)),(7,.int .i64 x0)]) (fun⟨wr,s3⟩=>wr) (fun⟨wr,s3⟩=>(Ext w wr)∧(Bk wr g1 24 [.bool s0,.slice A na ca])∧(s3=if gF (Int.natAbs x) n=10^n then aV (n+1) (10^n) else aV n (gF (Int.natAbs x) n))) ?_ ?_)))
    · 
     refine aA ?_
     have hmid: [53]++bP (r.length-1) 48=aV (k+1-n) (5*10^(k+1-n-1)):=by rw [hrl];exact DG.trans (by rw [show k+1-n-1+1=k+1-n by omega])
     have hm256:∀c,c∈ [53]++bP (r.length-1) 48→c<256:=fun c hc=>by rw [hmid] at hc;have:=kU hc;omega
     have hgt:=HW (m:=(Int.natAbs x)) (j:=k+1-n) (by omega)
     have heq:=I1 (m:=(Int.natAbs x)) (j:=k+1-n) (by omega)
     rw [←hmid,←hr] at hgt heq
     have hodd:=GQ (m:=(Int.natAbs x)) hdL (by omega) hn1
     rw [←hs2] at hodd
     have hs2l:s2.length=n:=by rw [hs2,d5]
     have hc255:s2.getD (n-1) 0<256:=by rw [hs2];have:=kU (jF (l:=aV n (dS (Int.natAbs x) n)) (i:=n-1) (by rw [d5];omega));omega
     have hs2b:∀c,c∈s2→c<256:=fun c hc=>by rw [hs2] at hc;have:=kU hc;omega
     by_cases hg:10^(k+1-n)<2*((Int.natAbs x)%10^(k+1-n))
     · 
      have hup:n<dL (Int.natAbs x)∧gG (Int.natAbs x) (dL (Int.natAbs x)-n):=⟨by omega,by rw [hdL];exact cE hg⟩
      refine a7 (mv 1 rfl (bD rfl rfl (v:= .int .i64 (((a8 r).size:Nat):Int)) (v':= .int .i64 ((r.length:Nat):Int)) (by rw [cM]) (aB rfl rfl rfl true (dJ (a:=r.length) (b:=0) rfl rfl) (mv 3 rfl (pW rfl rfl rfl hr256 hm256 true (hgt.trans (decide_eq_true hg)) (mv 12 rfl (pu (v:= .bool true) rfl (pu (v:= .bool true) rfl (a0 (aP rfl (a7 (mv 1 rfl (cl (vs:= [.string (a8 s2)]) hw2 (yC hs2 rfl hn40 hn1 (mN hM hn1).1) rfl (by kernel_rfl) fun xr17 v15 r17 e16 hw3=>?_)))))))))))))
      obtain rfl:=r17
      refine mv 1 rfl (aU (dG (⟨v15,bB 10 (dS (Int.natAbs x) n+1)⟩:a6×List Nat) ⟨hw3,(b_2.ext (e13.trans e16)),(xQ hM hn1 hup)⟩ rfl ⟨rfl,rfl,rfl,rfl,trivial⟩))
     · 
      by_cases hq:10^(k+1-n)=2*((Int.natAbs x)%10^(k+1-n))
      · 
       by_cases hod:s2.getD (n-1) 0%2=1
       · 
        have hup:n<dL (Int.natAbs x)∧gG (Int.natAbs x) (dL (Int.natAbs x)-n):=⟨by omega,by rw [hdL];exact bR ⟨hq,by omega⟩⟩
        refine a7 (mv 1 rfl (bD rfl rfl (v:= .int .i64 (((a8 r).size:Nat):Int)) (v':= .int .i64 ((r.length:Nat):Int)) (by rw [cM]) (aB rfl rfl rfl true (dJ (a:=r.length) (b:=0) rfl rfl) (mv 3 rfl (pW rfl rfl rfl hr256 hm256 false (hgt.trans (decide_eq_false hg)) (mv 3 rfl (fV (a:=r) (b:=([53])++(bP (r.length-1) 48)) rfl rfl rfl hr256 true (nU (heq.2 hq)) (mv 3 rfl (aE rfl rfl rfl ((n-1:Nat):Int) (eR (a:=n) (b:=1) rfl rfl) (dK (bs:=s2) (i:=n-1) rfl rfl rfl Tryz.underlying9 hs2b (aE rfl rfl rfl (((s2.getD (n-1) 0)%2:Nat):Int) (fC (a:=s2.getD (n-1) 0) (b:=2) rfl rfl (h:=(by decide))) (aB rfl rfl rfl true (dA (a:=(s2.getD (n-1) 0)%2) (b:=1) rfl rfl) (pu (v:= .bool true) rfl ?_)))))) (hb:=hm256))))))))
        refine pu (v:= .bool true) rfl (pu (v:= .bool true) rfl (a0 (aP rfl (a7 (mv 1 rfl (cl (vs:= [.string (a8 s2)]) hw2 (yC hs2 rfl hn40 hn1 (mN hM hn1).1) rfl (by kernel_rfl) fun xr20 v18 r20 e19 hw3=>?_))))))
        obtain rfl:=r20
        refine mv 1 rfl (aU (dG (⟨v18,bB 10 (dS (Int.natAbs x) n+1)⟩:a6×List Nat) ⟨hw3,(b_2.ext (e13.trans e19)),(xQ hM hn1 hup)⟩ rfl ⟨rfl,rfl,rfl,rfl,trivial⟩))
       · 
        have hup:¬(n<dL (Int.natAbs x)∧gG (Int.natAbs x) (dL (Int.natAbs x)-n)):=fun h=>by have h2:=h.2;rw [hdL] at h2;unfold gG at h2;omega
        refine a7 (mv 1 rfl (bD rfl rfl (v:= .int .i64 (((a8 r).size:Nat):Int)) (v':= .int .i64 ((r.length:Nat):Int)) (by rw [cM]) (aB rfl rfl rfl true (dJ (a:=r.length) (b:=0) rfl rfl) (mv 3 rfl (pW rfl rfl rfl hr256 hm256 false (hgt.trans (decide_eq_false hg)) (mv 3 rfl (fV (a:=r) (b:=([53])++(bP (r.length-1) 48)) rfl rfl rfl hr256 true (nU (heq.2 hq)) (mv 3 rfl (aE rfl rfl rfl ((n-1:Nat):Int) (eR (a:=n) (b:=1) rfl rfl) (dK (bs:=s2) (i:=n-1) rfl rfl rfl Tryz.underlying9 hs2b (aE rfl rfl rfl (((s2.getD (n-1) 0)%2:Nat):Int) (fC (a:=s2.getD (n-1) 0) (b:=2) rfl rfl (h:=(by decide))) (aB rfl rfl rfl false (dC (a:=(s2.getD (n-1) 0)%2) (b:=1) rfl rfl) (pu (v:= .bool false) rfl ?_)))))) (hb:=hm256))))))))
        refine pu (v:= .bool false) rfl (pu (v:= .bool false) rfl (a0 (aI rfl (aN (dG (⟨v12,s2⟩:a6×List Nat) ⟨hw2,(b_2.ext e13),(hs2.trans (sY hM hn1 hup))⟩ rfl ⟨rfl,rfl,rfl,rfl,trivial⟩)))))
      · 
       have hup:¬(n<dL (Int.natAbs x)∧gG (Int.natAbs x) (dL (Int.natAbs x)-n)):=fun h=>by have h2:=h.2;rw [hdL] at h2;unfold gG at h2;omega
       refine a7 (mv 1 rfl (bD rfl rfl (v:= .int .i64 (((a8 r).size:Nat):Int)) (v':= .int .i64 ((r.length:Nat):Int)) (by rw [cM]) (aB rfl rfl rfl true (dJ (a:=r.length) (b:=0) rfl rfl) (mv 3 rfl (pW rfl rfl rfl hr256 hm256 false (hgt.trans (decide_eq_false hg)) (mv 3 rfl (fV (a:=r) (b:=([53])++(bP (r.length-1) 48)) rfl rfl rfl hr256 false (q7 (fun h=>hq (heq.1 h))) (mv 7 rfl (pu (v:= .bool false) rfl (pu (v:= .bool false) rfl (pu (v:= .bool false) rfl (a0 (aI rfl ?_)))))) (hb:=hm256))))))))
       refine aN (dG (⟨v12,s2⟩:a6×List Nat) ⟨hw2,(b_2.ext e13),(hs2.trans (sY hM hn1 hup))⟩ rfl ⟨rfl,rfl,rfl,rfl,trivial⟩)
    · 
     rintro⟨wr,s3⟩ ⟨hw1,b_2,hs3⟩
     refine cC [(1,.int .i64 n),(2,.pointer (some ⟨g1,0,none⟩)),(6,.string (a8 s3)),(7,.int .i64 x0)] wr rfl ⟨rfl,rfl,rfl,rfl,trivial⟩ (i8 (T:=a6×List Nat×Nat) (fun⟨wr,s4,X0⟩=> [(1,.int .i64 n),(2,.pointer (some ⟨g1,0,none⟩)),(6,.string (a8 s4)),(7,.int .i64 X0)]) (fun⟨wr,s4,X0⟩=>wr) (fun⟨wr,s4,X0⟩=>(Ext w wr)∧(Bk wr g1 24 [.bool s0,.slice A na ca])∧(s4=aV n (fX (Int.natAbs x) n))∧(X0=gO (Int.natAbs x) n)) ?_ ?_)
     · 
      refine aA ?_
      by_cases hov:gF (Int.natAbs x) n=10^n
      · 
       rw [if_pos hov] at hs3
       have hs3l:s3.length=n+1:=by rw [hs3,d5]
       refine a7 (mv 1 rfl (bD rfl rfl (v:= .int .i64 (((a8 s3).size:Nat):Int)) (v':= .int .i64 ((s3.length:Nat):Int)) (by rw [cM]) (mv 1 rfl (aB rfl rfl rfl true (dJ (a:=s3.length) (b:=n) rfl rfl) (a0 (aP rfl (sr (mv 2 rfl (lL (bs:=s3) (i:=n) rfl rfl rfl Tryz.underlying9 (mv 1 rfl (a0 (a7 (mv 1 rfl ?_)))))))))))))
       refine aE rfl rfl rfl ((x0+1:Nat):Int) (bF (a:=x0) (b:=1) rfl rfl) (mv 1 rfl (aU (dG (⟨wr,s3.take n,x0+1⟩:a6×List Nat×Nat) ⟨hw1,b_2,(by rw [hs3,tQ (k:=1)];unfold fX;rw [if_pos hov];congr 1;exact xE hn1),(by unfold gO;rw [if_pos hov,hdL,hx0])⟩ rfl ⟨rfl,rfl,rfl,rfl,trivial⟩)))
      · 
       rw [if_neg hov] at hs3
       have hs3l:s3.length=n:=by rw [hs3,d5]
       refine a7 (mv 1 rfl (bD rfl rfl (v:= .int .i64 (((a8 s3).size:Nat):Int)) (v':= .int .i64 ((s3.length:Nat):Int)) (by rw [cM]) (mv 1 rfl (aB rfl rfl rfl false (d6 (a:=s3.length) (b:=n) rfl rfl) (a0 (aI rfl (aN (dG (⟨wr,s3,x0⟩:a6×List Nat×Nat) ⟨hw1,b_2,(by rw [hs3];unfold fX;rw [if_neg hov]),(by unfold gO;rw [if_neg hov,hdL,hx0];omega)⟩ rfl ⟨rfl,rfl,rfl,rfl,trivial⟩))))))))
     · 
      rintro⟨wr,s4,X0⟩ ⟨hw1,b_2,hs4,hX0⟩
      refine cC [(1,.int .i64 n),(2,.pointer (some ⟨g1,0,none⟩)),(6,.string (a8 s4)),(7,.int .i64 X0)] wr rfl ⟨rfl,rfl,rfl,rfl,trivial⟩ (aA ?_)
      have hs4l:s4.length=n:=by rw [hs4,d5]
      have hX0b:X0≤67108866:=by rw [hX0];unfold gO;split <;> omega
      have hst:=xP (q:=fX (Int.natAbs x) n) hn1
      rw [←hs4] at hst
      refine a7 (mv 1 rfl (lL (bs:=s4) (i:=1) rfl rfl rfl Tryz.underlying9 (mv 1 rfl (a0 (aA (aA ?_))))))
      by_cases hn2:n>1
      · 
       refine a7 (mv 1 rfl (aB rfl rfl rfl true (dJ (a:=n) (b:=1) rfl rfl) (a0 (aP rfl (a7 (mv 1 rfl (bS rfl rfl rfl (r:= .string (a8 ((s4.take 1)++([46])))) rfl (fun w=>d8 (a:=s4.take 1) (b:= [46]) (by simp only [cO,List.length_nil,bJ];omega)) (mv 1 rfl (mK (bs:=s4) (i:=1) rfl rfl rfl Tryz.underlying9 (bS rfl rfl rfl (r:= .string (a8 (((s4.take 1)++([46]))++(s4.drop 1)))) rfl (fun w=>d8 (a:=(s4.take 1)++([46])) (b:=s4.drop 1) (by simp only [cL,cO,List.length_nil,bJ,cV];omega)) (mv 1 rfl (a0 (aA ?_)))))))))))))
       refine aA ?_
       have hsa:=nM hx hx00
       cases s0
       · 
        refine a7 (pf g1 0 rfl (aS rfl rfl (aY eK b_2 rfl) (a0 (aI rfl (aN (aD (sr (mv 1 rfl (bS rfl rfl rfl (r:= .string (a8 ((((s4.take 1)++([46]))++(s4.drop 1))++([101])))) rfl (fun w=>d8 (a:=((s4.take 1)++([46]))++(s4.drop 1)) (b:= [101]) (by simp only [cL,cO,List.length_nil,bJ,cV];omega)) (mv 1 rfl (bD rfl rfl (v:= .int .u64 (IntKind.u64.wrap ((X0:Nat):Int))) (v':= .int .u64 X0) (eD (by first | omega | exact hle64)) (dQ rfl rfl (k:=1) (e:=65) [.int .u64 X0] (fun _=>by kernel_rfl) fun g21 v22 nb23=>?_))))))))))))
        have o24:=O1.mk_ (x:=X0) (b:=w.heap.size) nb23 hw1.size
        have e25:=nb23.ext
        have hw2:=hw1.trans e25
        refine cl (vs:= [.slice (some ⟨g21,0,none⟩) 1 1]) hw2 (jL rfl (gL o24 (show X0≤18446744073709551615 by omega))) rfl (by kernel_rfl) fun xr30 v28 r30 e29 hw3=>?_
        obtain rfl:=r30
        refine bS rfl rfl rfl (r:= .string (a8 (((((s4.take 1)++([46]))++(s4.drop 1))++([101]))++(bB 10 X0)))) rfl (fun w=>d8 (a:=(((s4.take 1)++([46]))++(s4.drop 1))++([101])) (b:=bB 10 X0) (by have htx:=k6 X0 hX0b;simp only [cL,cO,List.length_nil,bJ,cV];omega)) (mv 2 rfl (a0 (aM (aL [.string (a8 (((((s4.take 1)++([46]))++(s4.drop 1))++([101]))++(bB 10 X0))),I0] rfl ⟨rfl,rfl,trivial⟩ ?_))))
        have hend:((((s4.take 1)++([46]))++(s4.drop 1))++([101]))++(bB 10 X0)=eJ x n:=by unfold eJ;rw [if_neg hx00,←hX0,hst,if_pos hn2,if_neg (of_decide_eq_false hsa.symm)];simp only [List.append_assoc,List.nil_append,j8]
        exact⟨_,rfl,⟨_,_,rfl,(show Value.string (a8 (((((s4.take 1)++([46]))++(s4.drop 1))++([101]))++(bB 10 X0)))=_ by rw [hend]),rfl⟩,hw3⟩
       · 
        refine a7 (pf g1 0 rfl (aS rfl rfl (aY eK b_2 rfl) (a0 (aP rfl (a7 (mv 1 rfl (bS rfl rfl rfl (r:= .string (a8 (([45])++(((s4.take 1)++([46]))++(s4.drop 1))))) rfl (fun w=>d8 (a:= [45]) (b:=((s4.take 1)++([46]))++(s4.drop 1)) (by simp only [cL,cO,List.length_nil,bJ,cV];omega)) (mv 1 rfl (a0 (sr (mv 1 rfl (bS rfl rfl rfl (r:= .string (a8 ((([45])++(((s4.take 1)++([46]))++(s4.drop 1)))++([101])))) rfl (fun w=>d8 (a:=([45])++(((s4.take 1)++([46]))++(s4.drop 1))) (b:= [101]) (by simp only [cL,cO,List.length_nil,bJ,cV];omega)) (mv 1 rfl ?_)))))))))))))
        refine bD rfl rfl (v:= .int .u64 (IntKind.u64.wrap ((X0:Nat):Int))) (v':= .int .u64 X0) (eD (by first | omega | exact hle64)) (dQ rfl rfl (k:=1) (e:=65) [.int .u64 X0] (fun _=>by kernel_rfl) fun g31 v32 nb33=>?_)
        have o34:=O1.mk_ (x:=X0) (b:=w.heap.size) nb33 hw1.size
        have e35:=nb33.ext
        have hw2:=hw1.trans e35
        refine cl (vs:= [.slice (some ⟨g31,0,none⟩) 1 1]) hw2 (jL rfl (gL o34 (show X0≤18446744073709551615 by omega))) rfl (by kernel_rfl) fun xr40 v38 r40 e39 hw3=>?_
        obtain rfl:=r40
        refine bS rfl rfl rfl (r:= .string (a8 (((([45])++(((s4.take 1)++([46]))++(s4.drop 1)))++([101]))++(bB 10 X0)))) rfl (fun w=>d8 (a:=(([45])++(((s4.take 1)++([46]))++(s4.drop 1)))++([101])) (b:=bB 10 X0) (by have htx:=k6 X0 hX0b;simp only [cL,cO,List.length_nil,bJ,cV];omega)) (mv 2 rfl (a0 (aM (aL [.string (a8 (((([45])++(((s4.take 1)++([46]))++(s4.drop 1)))++([101]))++(bB 10 X0))),I0] rfl ⟨rfl,rfl,trivial⟩ ?_))))
        have hend:((([45])++(((s4.take 1)++([46]))++(s4.drop 1)))++([101]))++(bB 10 X0)=eJ x n:=by unfold eJ;rw [if_neg hx00,←hX0,hst,if_pos hn2,if_pos (of_decide_eq_true hsa.symm)];simp only [List.append_assoc,List.nil_append,j8]
        exact⟨_,rfl,⟨_,_,rfl,(show Value.string (a8 (((([45])++(((s4.take 1)++([46]))++(s4.drop 1)))++([101]))++(bB 10 X0)))=_ by rw [hend]),rfl⟩,hw3⟩
      · 
       refine a7 (mv 1 rfl (aB rfl rfl rfl false (d6 (a:=n) (b:=1) rfl rfl) (a0 (aI rfl (aN (aD (aA (aA ?_))))))))
       have hsa:=nM hx hx00
       cases s0
       · 
        refine a7 (pf g1 0 rfl (aS rfl rfl (aY eK b_2 rfl) (a0 (aI rfl (aN (aD (sr (mv 1 rfl (bS rfl rfl rfl (r:= .string (a8 ((s4.take 1)++([101])))) rfl (fun w=>d8 (a:=s4.take 1) (b:= [101]) (by simp only [cO,List.length_nil,bJ];omega)) (mv 1 rfl (bD rfl rfl (v:= .int .u64 (IntKind.u64.wrap ((X0:Nat):Int))) (v':= .int .u64 X0) (eD (by first | omega | exact hle64)) (dQ rfl rfl (k:=1) (e:=65) [.int .u64 X0] (fun _=>by kernel_rfl) fun g41 v42 nb43=>?_))))))))))))
        have o44:=O1.mk_ (x:=X0) (b:=w.heap.size) nb43 hw1.size
        have iD:=nb43.ext
        have hw2:=hw1.trans iD
        refine cl (vs:= [.slice (some ⟨g41,0,none⟩) 1 1]) hw2 (jL rfl (gL o44 (show X0≤18446744073709551615 by omega))) rfl (by kernel_rfl) fun xr50 v48 r50 e49 hw3=>?_
        obtain rfl:=r50
        refine bS rfl rfl rfl (r:= .string (a8 (((s4.take 1)++([101]))++(bB 10 X0)))) rfl (fun w=>d8 (a:=(s4.take 1)++([101])) (b:=bB 10 X0) (by have htx:=k6 X0 hX0b;simp only [cL,cO,List.length_nil,bJ];omega)) (mv 2 rfl (a0 (aM (aL [.string (a8 (((s4.take 1)++([101]))++(bB 10 X0))),I0] rfl ⟨rfl,rfl,trivial⟩ ?_))))
        have hend:((s4.take 1)++([101]))++(bB 10 X0)=eJ x n:=by unfold eJ;rw [if_neg hx00,←hX0,hst,if_neg hn2,if_neg (of_decide_eq_false hsa.symm)];simp only [List.append_assoc,List.nil_append,j8]
        exact⟨_,rfl,⟨_,_,rfl,(show Value.string (a8 (((s4.take 1)++([101]))++(bB 10 X0)))=_ by rw [hend]),rfl⟩,hw3⟩
       · 
        refine a7 (pf g1 0 rfl (aS rfl rfl (aY eK b_2 rfl) (a0 (aP rfl (a7 (mv 1 rfl (bS rfl rfl rfl (r:= .string (a8 (([45])++(s4.take 1)))) rfl (fun w=>d8 (a:= [45]) (b:=s4.take 1) (by simp only [cO,List.length_nil,bJ];omega)) (mv 1 rfl (a0 (sr (mv 1 rfl (bS rfl rfl rfl (r:= .string (a8 ((([45])++(s4.take 1))++([101])))) rfl (fun w=>d8 (a:=([45])++(s4.take 1)) (b:= [101]) (by simp only [cL,cO,List.length_nil,bJ];omega)) (mv 1 rfl ?_)))))))))))))
        refine bD rfl rfl (v:= .int .u64 (IntKind.u64.wrap ((X0:Nat):Int))) (v':= .int .u64 X0) (eD (by first | omega | exact hle64)) (dQ rfl rfl (k:=1) (e:=65) [.int .u64 X0] (fun _=>by kernel_rfl) fun g51 v52 nb53=>?_)
        have o54:=O1.mk_ (x:=X0) (b:=w.heap.size) nb53 hw1.size
        have e55:=nb53.ext
        have hw2:=hw1.trans e55
        refine cl (vs:= [.slice (some ⟨g51,0,none⟩) 1 1]) hw2 (jL rfl (gL o54 (show X0≤18446744073709551615 by omega))) rfl (by kernel_rfl) fun xr60 v58 r60 e59 hw3=>?_
        obtain rfl:=r60
        refine bS rfl rfl rfl (r:= .string (a8 (((([45])++(s4.take 1))++([101]))++(bB 10 X0)))) rfl (fun w=>d8 (a:=(([45])++(s4.take 1))++([101])) (b:=bB 10 X0) (by have htx:=k6 X0 hX0b;simp only [cL,cO,List.length_nil,bJ];omega)) (mv 2 rfl (a0 (aM (aL [.string (a8 (((([45])++(s4.take 1))++([101]))++(bB 10 X0))),I0] rfl ⟨rfl,rfl,trivial⟩ ?_))))
        have hend:((([45])++(s4.take 1))++([101]))++(bB 10 X0)=eJ x n:=by unfold eJ;rw [if_neg hx00,←hX0,hst,if_neg hn2,if_pos (of_decide_eq_true hsa.symm)];simp only [List.append_assoc,List.nil_append,j8]
        exact⟨_,rfl,⟨_,_,rfl,(show Value.string (a8 (((([45])++(s4.take 1))++([101]))++(bB 10 X0)))=_ by rw [hend]),rfl⟩,hw3⟩
   · 
    refine a7 (mv 1 rfl (bD rfl rfl (v:= .int .i64 (((a8 r).size:Nat):Int)) (v':= .int .i64 ((r.length:Nat):Int)) (by rw [cM]) (aB rfl rfl rfl false (d6 (a:=r.length) (b:=0) rfl rfl) (a0 (aI rfl (aN (aD (i8 (T:=a6×List Nat) (fun⟨wr,s3⟩=> [(1,.int .i64 n),(2,.pointer (some ⟨g1,0,none⟩)),(6,.string (a8 s3)),(7,.int .i64 x0)]) (fun⟨wr,s3⟩=>wr) (fun⟨wr,s3⟩=>(Ext w wr)∧(Bk wr g1 24 [.bool s0,.slice A na ca])∧(s3=if gF (Int.natAbs x) n=10^n then aV (n+1) (10^n) else aV n (gF (Int.natAbs x) n))) ?_ ?_))))))))
    · 
     refine aA ?_
     have hup:¬(n<dL (Int.natAbs x)∧gG (Int.natAbs x) (dL (Int.natAbs x)-n)):=fun h=>by have:=h.1;omega
     refine a7 (mv 1 rfl (bD rfl rfl (v:= .int .i64 (((a8 r).size:Nat):Int)) (v':= .int .i64 ((r.length:Nat):Int)) (by rw [cM]) (aB rfl rfl rfl false (d6 (a:=r.length) (b:=0) rfl rfl) (mv 17 rfl (pu (v:= .bool false) rfl (a0 (aI rfl (aN (dG (⟨wr,s2⟩:a6×List Nat) ⟨hw1,b_2,(hs2.trans (sY hM hn1 hup))⟩ rfl ⟨rfl,rfl,rfl,rfl,trivial⟩)))))))))
    · 
     rintro⟨wr,s3⟩ ⟨hw1,b_2,hs3⟩
     refine cC [(1,.int .i64 n),(2,.pointer (some ⟨g1,0,none⟩)),(6,.string (a8 s3)),(7,.int .i64 x0)] wr rfl ⟨rfl,rfl,rfl,rfl,trivial⟩ (i8 (T:=a6×List Nat×Nat) (fun⟨wr,s4,X0⟩=> [(1,.int .i64 n),(2,.pointer (some ⟨g1,0,none⟩)),(6,.string (a8 s4)),(7,.int .i64 X0)]) (fun⟨wr,s4,X0⟩=>wr) (fun⟨wr,s4,X0⟩=>(Ext w wr)∧(Bk wr g1 24 [.bool s0,.slice A na ca])∧(s4=aV n (fX (Int.natAbs x) n))∧(X0=gO (Int.natAbs x) n)) ?_ ?_)
     · 
      refine aA ?_
      by_cases hov:gF (Int.natAbs x) n=10^n
      · 
       rw [if_pos hov] at hs3
       have hs3l:s3.length=n+1:=by rw [hs3,d5]
       refine a7 (mv 1 rfl (bD rfl rfl (v:= .int .i64 (((a8 s3).size:Nat):Int)) (v':= .int .i64 ((s3.length:Nat):Int)) (by rw [cM]) (mv 1 rfl (aB rfl rfl rfl true (dJ (a:=s3.length) (b:=n) rfl rfl) (a0 (aP rfl (sr (mv 2 rfl (lL (bs:=s3) (i:=n) rfl rfl rfl Tryz.underlying9 (mv 1 rfl (a0 (a7 (mv 1 rfl ?_)))))))))))))
       refine aE rfl rfl rfl ((x0+1:Nat):Int) (bF (a:=x0) (b:=1) rfl rfl) (mv 1 rfl (aU (dG (⟨wr,s3.take n,x0+1⟩:a6×List Nat×Nat) ⟨hw1,b_2,(by rw [hs3,tQ (k:=1)];unfold fX;rw [if_pos hov];congr 1;exact xE hn1),(by unfold gO;rw [if_pos hov,hdL,hx0])⟩ rfl ⟨rfl,rfl,rfl,rfl,trivial⟩)))
      · 
       rw [if_neg hov] at hs3
       have hs3l:s3.length=n:=by rw [hs3,d5]
       refine a7 (mv 1 rfl (bD rfl rfl (v:= .int .i64 (((a8 s3).size:Nat):Int)) (v':= .int .i64 ((s3.length:Nat):Int)) (by rw [cM]) (mv 1 rfl (aB rfl rfl rfl false (d6 (a:=s3.length) (b:=n) rfl rfl) (a0 (aI rfl (aN (dG (⟨wr,s3,x0⟩:a6×List Nat×Nat) ⟨hw1,b_2,(by rw [hs3];unfold fX;rw [if_neg hov]),(by unfold gO;rw [if_neg hov,hdL,hx0];omega)⟩ rfl ⟨rfl,rfl,rfl,rfl,trivial⟩))))))))
     · 
      rintro⟨wr,s4,X0⟩ ⟨hw1,b_2,hs4,hX0⟩
      refine cC [(1,.int .i64 n),(2,.pointer (some ⟨g1,0,none⟩)),(6,.string (a8 s4)),(7,.int .i64 X0)] wr rfl ⟨rfl,rfl,rfl,rfl,trivial⟩ (aA ?_)
      have hs4l:s4.length=n:=by rw [hs4,d5]
      have hX0b:X0≤67108866:=by rw [hX0];unfold gO;split <;> omega
      have hst:=xP (q:=fX (Int.natAbs x) n) hn1
      rw [←hs4] at hst
      refine a7 (mv 1 rfl (lL (bs:=s4) (i:=1) rfl rfl rfl Tryz.underlying9 (mv 1 rfl (a0 (aA (aA ?_))))))
      by_cases hn2:n>1
      · 
       refine a7 (mv 1 rfl (aB rfl rfl rfl true (dJ (a:=n) (b:=1) rfl rfl) (a0 (aP rfl (a7 (mv 1 rfl (bS rfl rfl rfl (r:= .string (a8 ((s4.take 1)++([46])))) rfl (fun w=>d8 (a:=s4.take 1) (b:= [46]) (by simp only [cO,List.length_nil,bJ];omega)) (mv 1 rfl (mK (bs:=s4) (i:=1) rfl rfl rfl Tryz.underlying9 (bS rfl rfl rfl (r:= .string (a8 (((s4.take 1)++([46]))++(s4.drop 1)))) rfl (fun w=>d8 (a:=(s4.take 1)++([46])) (b:=s4.drop 1) (by simp only [cL,cO,List.length_nil,bJ,cV];omega)) (mv 1 rfl (a0 (aA ?_)))))))))))))
       refine aA ?_
       have hsa:=nM hx hx00
       cases s0
       · 
        refine a7 (pf g1 0 rfl (aS rfl rfl (aY eK b_2 rfl) (a0 (aI rfl (aN (aD (sr (mv 1 rfl (bS rfl rfl rfl (r:= .string (a8 ((((s4.take 1)++([46]))++(s4.drop 1))++([101])))) rfl (fun w=>d8 (a:=((s4.take 1)++([46]))++(s4.drop 1)) (b:= [101]) (by simp only [cL,cO,List.length_nil,bJ,cV];omega)) (mv 1 rfl (bD rfl rfl (v:= .int .u64 (IntKind.u64.wrap ((X0:Nat):Int))) (v':= .int .u64 X0) (eD (by first | omega | exact hle64)) (dQ rfl rfl (k:=1) (e:=65) [.int .u64 X0] (fun _=>by kernel_rfl) fun g61 v62 nb63=>?_))))))))))))
        have o64:=O1.mk_ (x:=X0) (b:=w.heap.size) nb63 hw1.size
        have e65:=nb63.ext
        have hw2:=hw1.trans e65
        refine cl (vs:= [.slice (some ⟨g61,0,none⟩) 1 1]) hw2 (jL rfl (gL o64 (show X0≤18446744073709551615 by omega))) rfl (by kernel_rfl) fun xr70 v68 r70 e69 hw3=>?_
        obtain rfl:=r70
        refine bS rfl rfl rfl (r:= .string (a8 (((((s4.take 1)++([46]))++(s4.drop 1))++([101]))++(bB 10 X0)))) rfl (fun w=>d8 (a:=(((s4.take 1)++([46]))++(s4.drop 1))++([101])) (b:=bB 10 X0) (by have htx:=k6 X0 hX0b;simp only [cL,cO,List.length_nil,bJ,cV];omega)) (mv 2 rfl (a0 (aM (aL [.string (a8 (((((s4.take 1)++([46]))++(s4.drop 1))++([101]))++(bB 10 X0))),I0] rfl ⟨rfl,rfl,trivial⟩ ?_))))
        have hend:((((s4.take 1)++([46]))++(s4.drop 1))++([101]))++(bB 10 X0)=eJ x n:=by unfold eJ;rw [if_neg hx00,←hX0,hst,if_pos hn2,if_neg (of_decide_eq_false hsa.symm)];simp only [List.append_assoc,List.nil_append,j8]
        exact⟨_,rfl,⟨_,_,rfl,(show Value.string (a8 (((((s4.take 1)++([46]))++(s4.drop 1))++([101]))++(bB 10 X0)))=_ by rw [hend]),rfl⟩,hw3⟩
       · 
        refine a7 (pf g1 0 rfl (aS rfl rfl (aY eK b_2 rfl) (a0 (aP rfl (a7 (mv 1 rfl (bS rfl rfl rfl (r:= .string (a8 (([45])++(((s4.take 1)++([46]))++(s4.drop 1))))) rfl (fun w=>d8 (a:= [45]) (b:=((s4.take 1)++([46]))++(s4.drop 1)) (by simp only [cL,cO,List.length_nil,bJ,cV];omega)) (mv 1 rfl (a0 (sr (mv 1 rfl (bS rfl rfl rfl (r:= .string (a8 ((([45])++(((s4.take 1)++([46]))++(s4.drop 1)))++([101])))) rfl (fun w=>d8 (a:=([45])++(((s4.take 1)++([46]))++(s4.drop 1))) (b:= [101]) (by simp only [cL,cO,List.length_nil,bJ,cV];omega)) (mv 1 rfl ?_)))))))))))))
        refine bD rfl rfl (v:= .int .u64 (IntKind.u64.wrap ((X0:Nat):Int))) (v':= .int .u64 X0) (eD (by first | omega | exact hle64)) (dQ rfl rfl (k:=1) (e:=65) [.int .u64 X0] (fun _=>by kernel_rfl) fun g71 v72 nb73=>?_)
        have o74:=O1.mk_ (x:=X0) (b:=w.heap.size) nb73 hw1.size
        have e75:=nb73.ext
        have hw2:=hw1.trans e75
        refine cl (vs:= [.slice (some ⟨g71,0,none⟩) 1 1]) hw2 (jL rfl (gL o74 (show X0≤18446744073709551615 by omega))) rfl (by kernel_rfl) fun xr80 v78 r80 e79 hw3=>?_
        obtain rfl:=r80
        refine bS rfl rfl rfl (r:= .string (a8 (((([45])++(((s4.take 1)++([46]))++(s4.drop 1)))++([101]))++(bB 10 X0)))) rfl (fun w=>d8 (a:=(([45])++(((s4.take 1)++([46]))++(s4.drop 1)))++([101])) (b:=bB 10 X0) (by have htx:=k6 X0 hX0b;simp only [cL,cO,List.length_nil,bJ,cV];omega)) (mv 2 rfl (a0 (aM (aL [.string (a8 (((([45])++(((s4.take 1)++([46]))++(s4.drop 1)))++([101]))++(bB 10 X0))),I0] rfl ⟨rfl,rfl,trivial⟩ ?_))))
        have hend:((([45])++(((s4.take 1)++([46]))++(s4.drop 1)))++([101]))++(bB 10 X0)=eJ x n:=by unfold eJ;rw [if_neg hx00,←hX0,hst,if_pos hn2,if_pos (of_decide_eq_true hsa.symm)];simp only [List.append_assoc,List.nil_append,j8]
        exact⟨_,rfl,⟨_,_,rfl,(show Value.string (a8 (((([45])++(((s4.take 1)++([46]))++(s4.drop 1)))++([101]))++(bB 10 X0)))=_ by rw [hend]),rfl⟩,hw3⟩
      · 
       refine a7 (mv 1 rfl (aB rfl rfl rfl false (d6 (a:=n) (b:=1) rfl rfl) (a0 (aI rfl (aN (aD (aA (aA ?_))))))))
       have hsa:=nM hx hx00
       cases s0
       · 
        refine a7 (pf g1 0 rfl (aS rfl rfl (aY eK b_2 rfl) (a0 (aI rfl (aN (aD (sr (mv 1 rfl (bS rfl rfl rfl (r:= .string (a8 ((s4.take 1)++([101])))) rfl (fun w=>d8 (a:=s4.take 1) (b:= [101]) (by simp only [cO,List.length_nil,bJ];omega)) (mv 1 rfl (bD rfl rfl (v:= .int .u64 (IntKind.u64.wrap ((X0:Nat):Int))) (v':= .int .u64 X0) (eD (by first | omega | exact hle64)) (dQ rfl rfl (k:=1) (e:=65) [.int .u64 X0] (fun _=>by kernel_rfl) fun g81 v82 nb83=>?_))))))))))))
        have o84:=O1.mk_ (x:=X0) (b:=w.heap.size) nb83 hw1.size
        have e85:=nb83.ext
        have hw2:=hw1.trans e85
        refine cl (vs:= [.slice (some ⟨g81,0,none⟩) 1 1]) hw2 (jL rfl (gL o84 (show X0≤18446744073709551615 by omega))) rfl (by kernel_rfl) fun xr90 v88 r90 e89 hw3=>?_
        obtain rfl:=r90
        refine bS rfl rfl rfl (r:= .string (a8 (((s4.take 1)++([101]))++(bB 10 X0)))) rfl (fun w=>d8 (a:=(s4.take 1)++([101])) (b:=bB 10 X0) (by have htx:=k6 X0 hX0b;simp only [cL,cO,List.length_nil,bJ];omega)) (mv 2 rfl (a0 (aM (aL [.string (a8 (((s4.take 1)++([101]))++(bB 10 X0))),I0] rfl ⟨rfl,rfl,trivial⟩ ?_))))
        have hend:((s4.take 1)++([101]))++(bB 10 X0)=eJ x n:=by unfold eJ;rw [if_neg hx00,←hX0,hst,if_neg hn2,if_neg (of_decide_eq_false hsa.symm)];simp only [List.append_assoc,List.nil_append,j8]
        exact⟨_,rfl,⟨_,_,rfl,(show Value.string (a8 (((s4.take 1)++([101]))++(bB 10 X0)))=_ by rw [hend]),rfl⟩,hw3⟩
       · 
        refine a7 (pf g1 0 rfl (aS rfl rfl (aY eK b_2 rfl) (a0 (aP rfl (a7 (mv 1 rfl (bS rfl rfl rfl (r:= .string (a8 (([45])++(s4.take 1)))) rfl (fun w=>d8 (a:= [45]) (b:=s4.take 1) (by simp only [cO,List.length_nil,bJ];omega)) (mv 1 rfl (a0 (sr (mv 1 rfl (bS rfl rfl rfl (r:= .string (a8 ((([45])++(s4.take 1))++([101])))) rfl (fun w=>d8 (a:=([45])++(s4.take 1)) (b:= [101]) (by simp only [cL,cO,List.length_nil,bJ];omega)) (mv 1 rfl ?_)))))))))))))
        refine bD rfl rfl (v:= .int .u64 (IntKind.u64.wrap ((X0:Nat):Int))) (v':= .int .u64 X0) (eD (by first | omega | exact hle64)) (dQ rfl rfl (k:=1) (e:=65) [.int .u64 X0] (fun _=>by kernel_rfl) fun g91 v92 nb93=>?_)
        have o94:=O1.mk_ (x:=X0) (b:=w.heap.size) nb93 hw1.size
        have e95:=nb93.ext
        have hw2:=hw1.trans e95
        refine cl (vs:= [.slice (some ⟨g91,0,none⟩) 1 1]) hw2 (jL rfl (gL o94 (show X0≤18446744073709551615 by omega))) rfl (by kernel_rfl) fun xr100 v98 r100 e99 hw3=>?_
        obtain rfl:=r100
        refine bS rfl rfl rfl (r:= .string (a8 (((([45])++(s4.take 1))++([101]))++(bB 10 X0)))) rfl (fun w=>d8 (a:=(([45])++(s4.take 1))++([101])) (b:=bB 10 X0) (by have htx:=k6 X0 hX0b;simp only [cL,cO,List.length_nil,bJ];omega)) (mv 2 rfl (a0 (aM (aL [.string (a8 (((([45])++(s4.take 1))++([101]))++(bB 10 X0))),I0] rfl ⟨rfl,rfl,trivial⟩ ?_))))
        have hend:((([45])++(s4.take 1))++([101]))++(bB 10 X0)=eJ x n:=by unfold eJ;rw [if_neg hx00,←hX0,hst,if_neg hn2,if_pos (of_decide_eq_true hsa.symm)];simp only [List.append_assoc,List.nil_append,j8]
        exact⟨_,rfl,⟨_,_,rfl,(show Value.string (a8 (((([45])++(s4.take 1))++([101]))++(bB 10 X0)))=_ by rw [hend]),rfl⟩,hw3⟩
 · 
  refine a7 (mv 1 rfl (bD rfl rfl (v:= .int .i64 (((a8 s).size:Nat):Int)) (v':= .int .i64 ((s.length:Nat):Int)) (by rw [cM]) (mv 1 rfl (aB rfl rfl rfl false (cX (a:=s.length) (b:=n) rfl rfl) (a0 (aI rfl (aN (aD (sr (mv 2 rfl (mK (bs:=s) (i:=n) rfl rfl rfl Tryz.underlying9 (mv 1 rfl (aU ?_)))))))))))))
  refine aD (i8 (T:=a6×Nat×List Nat×List Nat) (fun⟨wr,x0,s2,r⟩=> [(1,.int .i64 n),(2,.pointer (some ⟨g1,0,none⟩)),(6,.string (a8 s2)),(7,.int .i64 x0),(8,.string (a8 r))]) (fun⟨wr,x0,s2,r⟩=>wr) (fun⟨wr,x0,s2,r⟩=>(Ext w wr)∧(Bk wr g1 24 [.bool s0,.slice A na ca])∧(x0=k)∧(s2=aV n (dS (Int.natAbs x) n))∧(r=aV (k+1-n) (Int.natAbs x))) ?_ ?_)
  · 
   refine a7 (mv 2 rfl (lL (bs:=s) (i:=n) rfl rfl rfl Tryz.underlying9 (mv 1 rfl (aU (dG (⟨v6,s.length-1,s.take n,s.drop n⟩:a6×Nat×List Nat×List Nat) ⟨hw2,(hb4.ext e7),(by omega),(by rw [hs];exact (GN hdL).2 (by omega)),(by rw [hs];exact RR (by omega))⟩ rfl ⟨rfl,rfl,rfl,rfl,rfl,trivial⟩)))))
  · 
   rintro⟨wr,x0,s2,r⟩ ⟨hw1,b_2,hx0,hs2,hr⟩
   refine cC [(1,.int .i64 n),(2,.pointer (some ⟨g1,0,none⟩)),(6,.string (a8 s2)),(7,.int .i64 x0),(8,.string (a8 r))] wr rfl ⟨rfl,rfl,rfl,rfl,rfl,trivial⟩ (sr (mv 1 rfl (a0 (aA (aA ?_)))))
   have hrl:r.length=k+1-n:=by rw [hr,d5]
   have hr256:∀c,c∈r→c<256:=fun c hc=>by rw [hr] at hc;have:=kU hc;omega
   by_cases hlong:r.length>0
   · 
    refine a7 (mv 1 rfl (bD rfl rfl (v:= .int .i64 (((a8 r).size:Nat):Int)) (v':= .int .i64 ((r.length:Nat):Int)) (by rw [cM]) (aB rfl rfl rfl true (dJ (a:=r.length) (b:=0) rfl rfl) (a0 (aP rfl (a7 (mv 2 rfl (bD rfl rfl (v:= .int .i64 (((a8 r).size:Nat):Int)) (v':= .int .i64 ((r.length:Nat):Int)) (by rw [cM]) (aE rfl rfl rfl ((r.length-1:Nat):Int) (eR (a:=r.length) (b:=1) rfl rfl) (cl (vs:= [.int .i64 ((r.length-1:Nat):Int)]) hw1 (C6 (n:=r.length-1)) rfl (by kernel_rfl) fun xr103 v101 r103 e102 hw2=>?_))))))))))
    obtain rfl:=r103
    refine bS rfl rfl rfl (r:= .string (a8 (([53])++(bP (r.length-1) 48)))) rfl (fun w=>d8 (a:= [53]) (b:=bP (r.length-1) 48) (by simp only [List.length_replicate,cO,List.length_nil];omega)) (mv 1 rfl (a0 (i8 (T:=a6×List Nat) (fun⟨wr,s3⟩=> [(1,.int .i64 n),(2,.pointer (some ⟨g1,0,none⟩)),(6,.string (a8 s3)),(7,.int .i64 x0)]) (fun⟨wr,s3⟩=>wr) (fun⟨wr,s3⟩=>(Ext w wr)∧(Bk wr g1 24 [.bool s0,.slice A na ca])∧(s3=if gF (Int.natAbs x) n=10^n then aV (n+1) (10^n) else aV n (gF (Int.natAbs x) n))) ?_ ?_)))
    · 
     refine aA ?_
     have hmid: [53]++bP (r.length-1) 48=aV (k+1-n) (5*10^(k+1-n-1)):=by rw [hrl];exact DG.trans (by rw [show k+1-n-1+1=k+1-n by omega])
     have hm256:∀c,c∈ [53]++bP (r.length-1) 48→c<256:=fun c hc=>by rw [hmid] at hc;have:=kU hc;omega
     have hgt:=HW (m:=(Int.natAbs x)) (j:=k+1-n) (by omega)
     have heq:=I1 (m:=(Int.natAbs x)) (j:=k+1-n) (by omega)
     rw [←hmid,←hr] at hgt heq
     have hodd:=GQ (m:=(Int.natAbs x)) hdL (by omega) hn1
     rw [←hs2] at hodd
     have hs2l:s2.length=n:=by rw [hs2,d5]
     have hc255:s2.getD (n-1) 0<256:=by rw [hs2];have:=kU (jF (l:=aV n (dS (Int.natAbs x) n)) (i:=n-1) (by rw [d5];omega));omega
     have hs2b:∀c,c∈s2→c<256:=fun c hc=>by rw [hs2] at hc;have:=kU hc;omega
     by_cases hg:10^(k+1-n)<2*((Int.natAbs x)%10^(k+1-n))
     · 
      have hup:n<dL (Int.natAbs x)∧gG (Int.natAbs x) (dL (Int.natAbs x)-n):=⟨by omega,by rw [hdL];exact cE hg⟩
      refine a7 (mv 1 rfl (bD rfl rfl (v:= .int .i64 (((a8 r).size:Nat):Int)) (v':= .int .i64 ((r.length:Nat):Int)) (by rw [cM]) (aB rfl rfl rfl true (dJ (a:=r.length) (b:=0) rfl rfl) (mv 3 rfl (pW rfl rfl rfl hr256 hm256 true (hgt.trans (decide_eq_true hg)) (mv 12 rfl (pu (v:= .bool true) rfl (pu (v:= .bool true) rfl (a0 (aP rfl (a7 (mv 1 rfl (cl (vs:= [.string (a8 s2)]) hw2 (yC hs2 rfl hn40 hn1 (mN hM hn1).1) rfl (by kernel_rfl) fun xr106 v104 r106 e105 hw3=>?_)))))))))))))
      obtain rfl:=r106
      refine mv 1 rfl (aU (dG (⟨v104,bB 10 (dS (Int.natAbs x) n+1)⟩:a6×List Nat) ⟨hw3,(b_2.ext (e102.trans e105)),(xQ hM hn1 hup)⟩ rfl ⟨rfl,rfl,rfl,rfl,trivial⟩))
     · 
      by_cases hq:10^(k+1-n)=2*((Int.natAbs x)%10^(k+1-n))
      · 
       by_cases hod:s2.getD (n-1) 0%2=1
       · 
        have hup:n<dL (Int.natAbs x)∧gG (Int.natAbs x) (dL (Int.natAbs x)-n):=⟨by omega,by rw [hdL];exact bR ⟨hq,by omega⟩⟩
        refine a7 (mv 1 rfl (bD rfl rfl (v:= .int .i64 (((a8 r).size:Nat):Int)) (v':= .int .i64 ((r.length:Nat):Int)) (by rw [cM]) (aB rfl rfl rfl true (dJ (a:=r.length) (b:=0) rfl rfl) (mv 3 rfl (pW rfl rfl rfl hr256 hm256 false (hgt.trans (decide_eq_false hg)) (mv 3 rfl (fV (a:=r) (b:=([53])++(bP (r.length-1) 48)) rfl rfl rfl hr256 true (nU (heq.2 hq)) (mv 3 rfl (aE rfl rfl rfl ((n-1:Nat):Int) (eR (a:=n) (b:=1) rfl rfl) (dK (bs:=s2) (i:=n-1) rfl rfl rfl Tryz.underlying9 hs2b (aE rfl rfl rfl (((s2.getD (n-1) 0)%2:Nat):Int) (fC (a:=s2.getD (n-1) 0) (b:=2) rfl rfl (h:=(by decide))) (aB rfl rfl rfl true (dA (a:=(s2.getD (n-1) 0)%2) (b:=1) rfl rfl) (pu (v:= .bool true) rfl ?_)))))) (hb:=hm256))))))))
        refine pu (v:= .bool true) rfl (pu (v:= .bool true) rfl (a0 (aP rfl (a7 (mv 1 rfl (cl (vs:= [.string (a8 s2)]) hw2 (yC hs2 rfl hn40 hn1 (mN hM hn1).1) rfl (by kernel_rfl) fun xr109 v107 r109 e108 hw3=>?_))))))
        obtain rfl:=r109
        refine mv 1 rfl (aU (dG (⟨v107,bB 10 (dS (Int.natAbs x) n+1)⟩:a6×List Nat) ⟨hw3,(b_2.ext (e102.trans e108)),(xQ hM hn1 hup)⟩ rfl ⟨rfl,rfl,rfl,rfl,trivial⟩))
       · 
        have hup:¬(n<dL (Int.natAbs x)∧gG (Int.natAbs x) (dL (Int.natAbs x)-n)):=fun h=>by have h2:=h.2;rw [hdL] at h2;unfold gG at h2;omega
        refine a7 (mv 1 rfl (bD rfl rfl (v:= .int .i64 (((a8 r).size:Nat):Int)) (v':= .int .i64 ((r.length:Nat):Int)) (by rw [cM]) (aB rfl rfl rfl true (dJ (a:=r.length) (b:=0) rfl rfl) (mv 3 rfl (pW rfl rfl rfl hr256 hm256 false (hgt.trans (decide_eq_false hg)) (mv 3 rfl (fV (a:=r) (b:=([53])++(bP (r.length-1) 48)) rfl rfl rfl hr256 true (nU (heq.2 hq)) (mv 3 rfl (aE rfl rfl rfl ((n-1:Nat):Int) (eR (a:=n) (b:=1) rfl rfl) (dK (bs:=s2) (i:=n-1) rfl rfl rfl Tryz.underlying9 hs2b (aE rfl rfl rfl (((s2.getD (n-1) 0)%2:Nat):Int) (fC (a:=s2.getD (n-1) 0) (b:=2) rfl rfl (h:=(by decide))) (aB rfl rfl rfl false (dC (a:=(s2.getD (n-1) 0)%2) (b:=1) rfl rfl) (pu (v:= .bool false) rfl ?_)))))) (hb:=hm256))))))))
        refine pu (v:= .bool false) rfl (pu (v:= .bool false) rfl (a0 (aI rfl (aN (dG (⟨v101,s2⟩:a6×List Nat) ⟨hw2,(b_2.ext e102),(hs2.trans (sY hM hn1 hup))⟩ rfl ⟨rfl,rfl,rfl,rfl,trivial⟩)))))
      · 
       have hup:¬(n<dL (Int.natAbs x)∧gG (Int.natAbs x) (dL (Int.natAbs x)-n)):=fun h=>by have h2:=h.2;rw [hdL] at h2;unfold gG at h2;omega
       refine a7 (mv 1 rfl (bD rfl rfl (v:= .int .i64 (((a8 r).size:Nat):Int)) (v':= .int .i64 ((r.length:Nat):Int)) (by rw [cM]) (aB rfl rfl rfl true (dJ (a:=r.length) (b:=0) rfl rfl) (mv 3 rfl (pW rfl rfl rfl hr256 hm256 false (hgt.trans (decide_eq_false hg)) (mv 3 rfl (fV (a:=r) (b:=([53])++(bP (r.length-1) 48)) rfl rfl rfl hr256 false (q7 (fun h=>hq (heq.1 h))) (mv 7 rfl (pu (v:= .bool false) rfl (pu (v:= .bool false) rfl (pu (v:= .bool false) rfl (a0 (aI rfl ?_)))))) (hb:=hm256))))))))
       refine aN (dG (⟨v101,s2⟩:a6×List Nat) ⟨hw2,(b_2.ext e102),(hs2.trans (sY hM hn1 hup))⟩ rfl ⟨rfl,rfl,rfl,rfl,trivial⟩)
    · 
     rintro⟨wr,s3⟩ ⟨hw1,b_2,hs3⟩
     refine cC [(1,.int .i64 n),(2,.pointer (some ⟨g1,0,none⟩)),(6,.string (a8 s3)),(7,.int .i64 x0)] wr rfl ⟨rfl,rfl,rfl,rfl,trivial⟩ (i8 (T:=a6×List Nat×Nat) (fun⟨wr,s4,X0⟩=> [(1,.int .i64 n),(2,.pointer (some ⟨g1,0,none⟩)),(6,.string (a8 s4)),(7,.int .i64 X0)]) (fun⟨wr,s4,X0⟩=>wr) (fun⟨wr,s4,X0⟩=>(Ext w wr)∧(Bk wr g1 24 [.bool s0,.slice A na ca])∧(s4=aV n (fX (Int.natAbs x) n))∧(X0=gO (Int.natAbs x) n)) ?_ ?_)
     · 
      refine aA ?_
      by_cases hov:gF (Int.natAbs x) n=10^n
      · 
       rw [if_pos hov] at hs3
       have hs3l:s3.length=n+1:=by rw [hs3,d5]
       refine a7 (mv 1 rfl (bD rfl rfl (v:= .int .i64 (((a8 s3).size:Nat):Int)) (v':= .int .i64 ((s3.length:Nat):Int)) (by rw [cM]) (mv 1 rfl (aB rfl rfl rfl true (dJ (a:=s3.length) (b:=n) rfl rfl) (a0 (aP rfl (sr (mv 2 rfl (lL (bs:=s3) (i:=n) rfl rfl rfl Tryz.underlying9 (mv 1 rfl (a0 (a7 (mv 1 rfl ?_)))))))))))))
       refine aE rfl rfl rfl ((x0+1:Nat):Int) (bF (a:=x0) (b:=1) rfl rfl) (mv 1 rfl (aU (dG (⟨wr,s3.take n,x0+1⟩:a6×List Nat×Nat) ⟨hw1,b_2,(by rw [hs3,tQ (k:=1)];unfold fX;rw [if_pos hov];congr 1;exact xE hn1),(by unfold gO;rw [if_pos hov,hdL,hx0])⟩ rfl ⟨rfl,rfl,rfl,rfl,trivial⟩)))
      · 
       rw [if_neg hov] at hs3
       have hs3l:s3.length=n:=by rw [hs3,d5]
       refine a7 (mv 1 rfl (bD rfl rfl (v:= .int .i64 (((a8 s3).size:Nat):Int)) (v':= .int .i64 ((s3.length:Nat):Int)) (by rw [cM]) (mv 1 rfl (aB rfl rfl rfl false (d6 (a:=s3.length) (b:=n) rfl rfl) (a0 (aI rfl (aN (dG (⟨wr,s3,x0⟩:a6×List Nat×Nat) ⟨hw1,b_2,(by rw [hs3];unfold fX;rw [if_neg hov]),(by unfold gO;rw [if_neg hov,hdL,hx0];omega)⟩ rfl ⟨rfl,rfl,rfl,rfl,trivial⟩))))))))
     · 
      rintro⟨wr,s4,X0⟩ ⟨hw1,b_2,hs4,hX0⟩
      refine cC [(1,.int .i64 n),(2,.pointer (some ⟨g1,0,none⟩)),(6,.string (a8 s4)),(7,.int .i64 X0)] wr rfl ⟨rfl,rfl,rfl,rfl,trivial⟩ (aA ?_)
      have hs4l:s4.length=n:=by rw [hs4,d5]
      have hX0b:X0≤67108866:=by rw [hX0];unfold gO;split <;> omega
      have hst:=xP (q:=fX (Int.natAbs x) n) hn1
      rw [←hs4] at hst
      refine a7 (mv 1 rfl (lL (bs:=s4) (i:=1) rfl rfl rfl Tryz.underlying9 (mv 1 rfl (a0 (aA (aA ?_))))))
      by_cases hn2:n>1
      · 
       refine a7 (mv 1 rfl (aB rfl rfl rfl true (dJ (a:=n) (b:=1) rfl rfl) (a0 (aP rfl (a7 (mv 1 rfl (bS rfl rfl rfl (r:= .string (a8 ((s4.take 1)++([46])))) rfl (fun w=>d8 (a:=s4.take 1) (b:= [46]) (by simp only [cO,List.length_nil,bJ];omega)) (mv 1 rfl (mK (bs:=s4) (i:=1) rfl rfl rfl Tryz.underlying9 (bS rfl rfl rfl (r:= .string (a8 (((s4.take 1)++([46]))++(s4.drop 1)))) rfl (fun w=>d8 (a:=(s4.take 1)++([46])) (b:=s4.drop 1) (by simp only [cL,cO,List.length_nil,bJ,cV];omega)) (mv 1 rfl (a0 (aA ?_)))))))))))))
       refine aA ?_
       have hsa:=nM hx hx00
       cases s0
       · 
        refine a7 (pf g1 0 rfl (aS rfl rfl (aY eK b_2 rfl) (a0 (aI rfl (aN (aD (sr (mv 1 rfl (bS rfl rfl rfl (r:= .string (a8 ((((s4.take 1)++([46]))++(s4.drop 1))++([101])))) rfl (fun w=>d8 (a:=((s4.take 1)++([46]))++(s4.drop 1)) (b:= [101]) (by simp only [cL,cO,List.length_nil,bJ,cV];omega)) (mv 1 rfl (bD rfl rfl (v:= .int .u64 (IntKind.u64.wrap ((X0:Nat):Int))) (v':= .int .u64 X0) (eD (by first | omega | exact hle64)) (dQ rfl rfl (k:=1) (e:=65) [.int .u64 X0] (fun _=>by kernel_rfl) fun g110 v111 nb112=>?_))))))))))))
        have o113:=O1.mk_ (x:=X0) (b:=w.heap.size) nb112 hw1.size
        have e114:=nb112.ext
        have hw2:=hw1.trans e114
        refine cl (vs:= [.slice (some ⟨g110,0,none⟩) 1 1]) hw2 (jL rfl (gL o113 (show X0≤18446744073709551615 by omega))) rfl (by kernel_rfl) fun xr119 v117 r119 e118 hw3=>?_
        obtain rfl:=r119
        refine bS rfl rfl rfl (r:= .string (a8 (((((s4.take 1)++([46]))++(s4.drop 1))++([101]))++(bB 10 X0)))) rfl (fun w=>d8 (a:=(((s4.take 1)++([46]))++(s4.drop 1))++([101])) (b:=bB 10 X0) (by have htx:=k6 X0 hX0b;simp only [cL,cO,List.length_nil,bJ,cV];omega)) (mv 2 rfl (a0 (aM (aL [.string (a8 (((((s4.take 1)++([46]))++(s4.drop 1))++([101]))++(bB 10 X0))),I0] rfl ⟨rfl,rfl,trivial⟩ ?_))))
        have hend:((((s4.take 1)++([46]))++(s4.drop 1))++([101]))++(bB 10 X0)=eJ x n:=by unfold eJ;rw [if_neg hx00,←hX0,hst,if_pos hn2,if_neg (of_decide_eq_false hsa.symm)];simp only [List.append_assoc,List.nil_append,j8]
        exact⟨_,rfl,⟨_,_,rfl,(show Value.string (a8 (((((s4.take 1)++([46]))++(s4.drop 1))++([101]))++(bB 10 X0)))=_ by rw [hend]),rfl⟩,hw3⟩
       · 
        refine a7 (pf g1 0 rfl (aS rfl rfl (aY eK b_2 rfl) (a0 (aP rfl (a7 (mv 1 rfl (bS rfl rfl rfl (r:= .string (a8 (([45])++(((s4.take 1)++([46]))++(s4.drop 1))))) rfl (fun w=>d8 (a:= [45]) (b:=((s4.take 1)++([46]))++(s4.drop 1)) (by simp only [cL,cO,List.length_nil,bJ,cV];omega)) (mv 1 rfl (a0 (sr (mv 1 rfl (bS rfl rfl rfl (r:= .string (a8 ((([45])++(((s4.take 1)++([46]))++(s4.drop 1)))++([101])))) rfl (fun w=>d8 (a:=([45])++(((s4.take 1)++([46]))++(s4.drop 1))) (b:= [101]) (by simp only [cL,cO,List.length_nil,bJ,cV];omega)) (mv 1 rfl ?_)))))))))))))
        refine bD rfl rfl (v:= .int .u64 (IntKind.u64.wrap ((X0:Nat):Int))) (v':= .int .u64 X0) (eD (by first | omega | exact hle64)) (dQ rfl rfl (k:=1) (e:=65) [.int .u64 X0] (fun _=>by kernel_rfl) fun g120 v121 nb122=>?_)
        have o123:=O1.mk_ (x:=X0) (b:=w.heap.size) nb122 hw1.size
        have e124:=nb122.ext
        have hw2:=hw1.trans e124
        refine cl (vs:= [.slice (some ⟨g120,0,none⟩) 1 1]) hw2 (jL rfl (gL o123 (show X0≤18446744073709551615 by omega))) rfl (by kernel_rfl) fun xr129 v127 r129 e128 hw3=>?_
        obtain rfl:=r129
        refine bS rfl rfl rfl (r:= .string (a8 (((([45])++(((s4.take 1)++([46]))++(s4.drop 1)))++([101]))++(bB 10 X0)))) rfl (fun w=>d8 (a:=(([45])++(((s4.take 1)++([46]))++(s4.drop 1)))++([101])) (b:=bB 10 X0) (by have htx:=k6 X0 hX0b;simp only [cL,cO,List.length_nil,bJ,cV];omega)) (mv 2 rfl (a0 (aM (aL [.string (a8 (((([45])++(((s4.take 1)++([46]))++(s4.drop 1)))++([101]))++(bB 10 X0))),I0] rfl ⟨rfl,rfl,trivial⟩ ?_))))
        have hend:((([45])++(((s4.take 1)++([46]))++(s4.drop 1)))++([101]))++(bB 10 X0)=eJ x n:=by unfold eJ;rw [if_neg hx00,←hX0,hst,if_pos hn2,if_pos (of_decide_eq_true hsa.symm)];simp only [List.append_assoc,List.nil_append,j8]
        exact⟨_,rfl,⟨_,_,rfl,(show Value.string (a8 (((([45])++(((s4.take 1)++([46]))++(s4.drop 1)))++([101]))++(bB 10 X0)))=_ by rw [hend]),rfl⟩,hw3⟩
      · 
       refine a7 (mv 1 rfl (aB rfl rfl rfl false (d6 (a:=n) (b:=1) rfl rfl) (a0 (aI rfl (aN (aD (aA (aA ?_))))))))
       have hsa:=nM hx hx00
       cases s0
       · 
        refine a7 (pf g1 0 rfl (aS rfl rfl (aY eK b_2 rfl) (a0 (aI rfl (aN (aD (sr (mv 1 rfl (bS rfl rfl rfl (r:= .string (a8 ((s4.take 1)++([101])))) rfl (fun w=>d8 (a:=s4.take 1) (b:= [101]) (by simp only [cO,List.length_nil,bJ];omega)) (mv 1 rfl (bD rfl rfl (v:= .int .u64 (IntKind.u64.wrap ((X0:Nat):Int))) (v':= .int .u64 X0) (eD (by first | omega | exact hle64)) (dQ rfl rfl (k:=1) (e:=65) [.int .u64 X0] (fun _=>by kernel_rfl) fun g130 v131 nb132=>?_))))))))))))
        have o133:=O1.mk_ (x:=X0) (b:=w.heap.size) nb132 hw1.size
        have e134:=nb132.ext
        have hw2:=hw1.trans e134
        refine cl (vs:= [.slice (some ⟨g130,0,none⟩) 1 1]) hw2 (jL rfl (gL o133 (show X0≤18446744073709551615 by omega))) rfl (by kernel_rfl) fun xr139 v137 r139 e138 hw3=>?_
        obtain rfl:=r139
        refine bS rfl rfl rfl (r:= .string (a8 (((s4.take 1)++([101]))++(bB 10 X0)))) rfl (fun w=>d8 (a:=(s4.take 1)++([101])) (b:=bB 10 X0) (by have htx:=k6 X0 hX0b;simp only [cL,cO,List.length_nil,bJ];omega)) (mv 2 rfl (a0 (aM (aL [.string (a8 (((s4.take 1)++([101]))++(bB 10 X0))),I0] rfl ⟨rfl,rfl,trivial⟩ ?_))))
        have hend:((s4.take 1)++([101]))++(bB 10 X0)=eJ x n:=by unfold eJ;rw [if_neg hx00,←hX0,hst,if_neg hn2,if_neg (of_decide_eq_false hsa.symm)];simp only [List.append_assoc,List.nil_append,j8]
        exact⟨_,rfl,⟨_,_,rfl,(show Value.string (a8 (((s4.take 1)++([101]))++(bB 10 X0)))=_ by rw [hend]),rfl⟩,hw3⟩
       · 
        refine a7 (pf g1 0 rfl (aS rfl rfl (aY eK b_2 rfl) (a0 (aP rfl (a7 (mv 1 rfl (bS rfl rfl rfl (r:= .string (a8 (([45])++(s4.take 1)))) rfl (fun w=>d8 (a:= [45]) (b:=s4.take 1) (by simp only [cO,List.length_nil,bJ];omega)) (mv 1 rfl (a0 (sr (mv 1 rfl (bS rfl rfl rfl (r:= .string (a8 ((([45])++(s4.take 1))++([101])))) rfl (fun w=>d8 (a:=([45])++(s4.take 1)) (b:= [101]) (by simp only [cL,cO,List.length_nil,bJ];omega)) (mv 1 rfl ?_)))))))))))))
        refine bD rfl rfl (v:= .int .u64 (IntKind.u64.wrap ((X0:Nat):Int))) (v':= .int .u64 X0) (eD (by first | omega | exact hle64)) (dQ rfl rfl (k:=1) (e:=65) [.int .u64 X0] (fun _=>by kernel_rfl) fun g140 v141 nb142=>?_)
        have o143:=O1.mk_ (x:=X0) (b:=w.heap.size) nb142 hw1.size
        have e144:=nb142.ext
        have hw2:=hw1.trans e144
        refine cl (vs:= [.slice (some ⟨g140,0,none⟩) 1 1]) hw2 (jL rfl (gL o143 (show X0≤18446744073709551615 by omega))) rfl (by kernel_rfl) fun xr149 v147 r149 e148 hw3=>?_
        obtain rfl:=r149
        refine bS rfl rfl rfl (r:= .string (a8 (((([45])++(s4.take 1))++([101]))++(bB 10 X0)))) rfl (fun w=>d8 (a:=(([45])++(s4.take 1))++([101])) (b:=bB 10 X0) (by have htx:=k6 X0 hX0b;simp only [cL,cO,List.length_nil,bJ];omega)) (mv 2 rfl (a0 (aM (aL [.string (a8 (((([45])++(s4.take 1))++([101]))++(bB 10 X0))),I0] rfl ⟨rfl,rfl,trivial⟩ ?_))))
        have hend:((([45])++(s4.take 1))++([101]))++(bB 10 X0)=eJ x n:=by unfold eJ;rw [if_neg hx00,←hX0,hst,if_neg hn2,if_pos (of_decide_eq_true hsa.symm)];simp only [List.append_assoc,List.nil_append,j8]
        exact⟨_,rfl,⟨_,_,rfl,(show Value.string (a8 (((([45])++(s4.take 1))++([101]))++(bB 10 X0)))=_ by rw [hend]),rfl⟩,hw3⟩
   · 
    refine a7 (mv 1 rfl (bD rfl rfl (v:= .int .i64 (((a8 r).size:Nat):Int)) (v':= .int .i64 ((r.length:Nat):Int)) (by rw [cM]) (aB rfl rfl rfl false (d6 (a:=r.length) (b:=0) rfl rfl) (a0 (aI rfl (aN (aD (i8 (T:=a6×List Nat) (fun⟨wr,s3⟩=> [(1,.int .i64 n),(2,.pointer (some ⟨g1,0,none⟩)),(6,.string (a8 s3)),(7,.int .i64 x0)]) (fun⟨wr,s3⟩=>wr) (fun⟨wr,s3⟩=>(Ext w wr)∧(Bk wr g1 24 [.bool s0,.slice A na ca])∧(s3=if gF (Int.natAbs x) n=10^n then aV (n+1) (10^n) else aV n (gF (Int.natAbs x) n))) ?_ ?_))))))))
    · 
     refine aA ?_
     have hup:¬(n<dL (Int.natAbs x)∧gG (Int.natAbs x) (dL (Int.natAbs x)-n)):=fun h=>by have:=h.1;omega
     refine a7 (mv 1 rfl (bD rfl rfl (v:= .int .i64 (((a8 r).size:Nat):Int)) (v':= .int .i64 ((r.length:Nat):Int)) (by rw [cM]) (aB rfl rfl rfl false (d6 (a:=r.length) (b:=0) rfl rfl) (mv 17 rfl (pu (v:= .bool false) rfl (a0 (aI rfl (aN (dG (⟨wr,s2⟩:a6×List Nat) ⟨hw1,b_2,(hs2.trans (sY hM hn1 hup))⟩ rfl ⟨rfl,rfl,rfl,rfl,trivial⟩)))))))))
    · 
     rintro⟨wr,s3⟩ ⟨hw1,b_2,hs3⟩
     refine cC [(1,.int .i64 n),(2,.pointer (some ⟨g1,0,none⟩)),(6,.string (a8 s3)),(7,.int .i64 x0)] wr rfl ⟨rfl,rfl,rfl,rfl,trivial⟩ (i8 (T:=a6×List Nat×Nat) (fun⟨wr,s4,X0⟩=> [(1,.int .i64 n),(2,.pointer (some ⟨g1,0,none⟩)),(6,.string (a8 s4)),(7,.int .i64 X0)]) (fun⟨wr,s4,X0⟩=>wr) (fun⟨wr,s4,X0⟩=>(Ext w wr)∧(Bk wr g1 24 [.bool s0,.slice A na ca])∧(s4=aV n (fX (Int.natAbs x) n))∧(X0=gO (Int.natAbs x) n)) ?_ ?_)
     · 
      refine aA ?_
      by_cases hov:gF (Int.natAbs x) n=10^n
      · 
       rw [if_pos hov] at hs3
       have hs3l:s3.length=n+1:=by rw [hs3,d5]
       refine a7 (mv 1 rfl (bD rfl rfl (v:= .int .i64 (((a8 s3).size:Nat):Int)) (v':= .int .i64 ((s3.length:Nat):Int)) (by rw [cM]) (mv 1 rfl (aB rfl rfl rfl true (dJ (a:=s3.length) (b:=n) rfl rfl) (a0 (aP rfl (sr (mv 2 rfl (lL (bs:=s3) (i:=n) rfl rfl rfl Tryz.underlying9 (mv 1 rfl (a0 (a7 (mv 1 rfl ?_)))))))))))))
       refine aE rfl rfl rfl ((x0+1:Nat):Int) (bF (a:=x0) (b:=1) rfl rfl) (mv 1 rfl (aU (dG (⟨wr,s3.take n,x0+1⟩:a6×List Nat×Nat) ⟨hw1,b_2,(by rw [hs3,tQ (k:=1)];unfold fX;rw [if_pos hov];congr 1;exact xE hn1),(by unfold gO;rw [if_pos hov,hdL,hx0])⟩ rfl ⟨rfl,rfl,rfl,rfl,trivial⟩)))
      · 
       rw [if_neg hov] at hs3
       have hs3l:s3.length=n:=by rw [hs3,d5]
       refine a7 (mv 1 rfl (bD rfl rfl (v:= .int .i64 (((a8 s3).size:Nat):Int)) (v':= .int .i64 ((s3.length:Nat):Int)) (by rw [cM]) (mv 1 rfl (aB rfl rfl rfl false (d6 (a:=s3.length) (b:=n) rfl rfl) (a0 (aI rfl (aN (dG (⟨wr,s3,x0⟩:a6×List Nat×Nat) ⟨hw1,b_2,(by rw [hs3];unfold fX;rw [if_neg hov]),(by unfold gO;rw [if_neg hov,hdL,hx0];omega)⟩ rfl ⟨rfl,rfl,rfl,rfl,trivial⟩))))))))
     · 
      rintro⟨wr,s4,X0⟩ ⟨hw1,b_2,hs4,hX0⟩
      refine cC [(1,.int .i64 n),(2,.pointer (some ⟨g1,0,none⟩)),(6,.string (a8 s4)),(7,.int .i64 X0)] wr rfl ⟨rfl,rfl,rfl,rfl,trivial⟩ (aA ?_)
      have hs4l:s4.length=n:=by rw [hs4,d5]
      have hX0b:X0≤67108866:=by rw [hX0];unfold gO;split <;> omega
      have hst:=xP (q:=fX (Int.natAbs x) n) hn1
      rw [←hs4] at hst
      refine a7 (mv 1 rfl (lL (bs:=s4) (i:=1) rfl rfl rfl Tryz.underlying9 (mv 1 rfl (a0 (aA (aA ?_))))))
      by_cases hn2:n>1
      · 
       refine a7 (mv 1 rfl (aB rfl rfl rfl true (dJ (a:=n) (b:=1) rfl rfl) (a0 (aP rfl (a7 (mv 1 rfl (bS rfl rfl rfl (r:= .string (a8 ((s4.take 1)++([46])))) rfl (fun w=>d8 (a:=s4.take 1) (b:= [46]) (by simp only [cO,List.length_nil,bJ];omega)) (mv 1 rfl (mK (bs:=s4) (i:=1) rfl rfl rfl Tryz.underlying9 (bS rfl rfl rfl (r:= .string (a8 (((s4.take 1)++([46]))++(s4.drop 1)))) rfl (fun w=>d8 (a:=(s4.take 1)++([46])) (b:=s4.drop 1) (by simp only [cL,cO,List.length_nil,bJ,cV];omega)) (mv 1 rfl (a0 (aA ?_)))))))))))))
       refine aA ?_
       have hsa:=nM hx hx00
       cases s0
       · 
        refine a7 (pf g1 0 rfl (aS rfl rfl (aY eK b_2 rfl) (a0 (aI rfl (aN (aD (sr (mv 1 rfl (bS rfl rfl rfl (r:= .string (a8 ((((s4.take 1)++([46]))++(s4.drop 1))++([101])))) rfl (fun w=>d8 (a:=((s4.take 1)++([46]))++(s4.drop 1)) (b:= [101]) (by simp only [cL,cO,List.length_nil,bJ,cV];omega)) (mv 1 rfl (bD rfl rfl (v:= .int .u64 (IntKind.u64.wrap ((X0:Nat):Int))) (v':= .int .u64 X0) (eD (by first | omega | exact hle64)) (dQ rfl rfl (k:=1) (e:=65) [.int .u64 X0] (fun _=>by kernel_rfl) fun g150 v151 nb152=>?_))))))))))))
        have o153:=O1.mk_ (x:=X0) (b:=w.heap.size) nb152 hw1.size
        have e154:=nb152.ext
        have hw2:=hw1.trans e154
        refine cl (vs:= [.slice (some ⟨g150,0,none⟩) 1 1]) hw2 (jL rfl (gL o153 (show X0≤18446744073709551615 by omega))) rfl (by kernel_rfl) fun xr159 v157 r159 e158 hw3=>?_
        obtain rfl:=r159
        refine bS rfl rfl rfl (r:= .string (a8 (((((s4.take 1)++([46]))++(s4.drop 1))++([101]))++(bB 10 X0)))) rfl (fun w=>d8 (a:=(((s4.take 1)++([46]))++(s4.drop 1))++([101])) (b:=bB 10 X0) (by have htx:=k6 X0 hX0b;simp only [cL,cO,List.length_nil,bJ,cV];omega)) (mv 2 rfl (a0 (aM (aL [.string (a8 (((((s4.take 1)++([46]))++(s4.drop 1))++([101]))++(bB 10 X0))),I0] rfl ⟨rfl,rfl,trivial⟩ ?_))))
        have hend:((((s4.take 1)++([46]))++(s4.drop 1))++([101]))++(bB 10 X0)=eJ x n:=by unfold eJ;rw [if_neg hx00,←hX0,hst,if_pos hn2,if_neg (of_decide_eq_false hsa.symm)];simp only [List.append_assoc,List.nil_append,j8]
        exact⟨_,rfl,⟨_,_,rfl,(show Value.string (a8 (((((s4.take 1)++([46]))++(s4.drop 1))++([101]))++(bB 10 X0)))=_ by rw [hend]),rfl⟩,hw3⟩
       · 
        refine a7 (pf g1 0 rfl (aS rfl rfl (aY eK b_2 rfl) (a0 (aP rfl (a7 (mv 1 rfl (bS rfl rfl rfl (r:= .string (a8 (([45])++(((s4.take 1)++([46]))++(s4.drop 1))))) rfl (fun w=>d8 (a:= [45]) (b:=((s4.take 1)++([46]))++(s4.drop 1)) (by simp only [cL,cO,List.length_nil,bJ,cV];omega)) (mv 1 rfl (a0 (sr (mv 1 rfl (bS rfl rfl rfl (r:= .string (a8 ((([45])++(((s4.take 1)++([46]))++(s4.drop 1)))++([101])))) rfl (fun w=>d8 (a:=([45])++(((s4.take 1)++([46]))++(s4.drop 1))) (b:= [101]) (by simp only [cL,cO,List.length_nil,bJ,cV];omega)) (mv 1 rfl ?_)))))))))))))
        refine bD rfl rfl (v:= .int .u64 (IntKind.u64.wrap ((X0:Nat):Int))) (v':= .int .u64 X0) (eD (by first | omega | exact hle64)) (dQ rfl rfl (k:=1) (e:=65) [.int .u64 X0] (fun _=>by kernel_rfl) fun g160 v161 nb162=>?_)
        have o163:=O1.mk_ (x:=X0) (b:=w.heap.size) nb162 hw1.size
        have e164:=nb162.ext
        have hw2:=hw1.trans e164
        refine cl (vs:= [.slice (some ⟨g160,0,none⟩) 1 1]) hw2 (jL rfl (gL o163 (show X0≤18446744073709551615 by omega))) rfl (by kernel_rfl) fun xr169 v167 r169 e168 hw3=>?_
        obtain rfl:=r169
        refine bS rfl rfl rfl (r:= .string (a8 (((([45])++(((s4.take 1)++([46]))++(s4.drop 1)))++([101]))++(bB 10 X0)))) rfl (fun w=>d8 (a:=(([45])++(((s4.take 1)++([46]))++(s4.drop 1)))++([101])) (b:=bB 10 X0) (by have htx:=k6 X0 hX0b;simp only [cL,cO,List.length_nil,bJ,cV];omega)) (mv 2 rfl (a0 (aM (aL [.string (a8 (((([45])++(((s4.take 1)++([46]))++(s4.drop 1)))++([101]))++(bB 10 X0))),I0] rfl ⟨rfl,rfl,trivial⟩ ?_))))
        have hend:((([45])++(((s4.take 1)++([46]))++(s4.drop 1)))++([101]))++(bB 10 X0)=eJ x n:=by unfold eJ;rw [if_neg hx00,←hX0,hst,if_pos hn2,if_pos (of_decide_eq_true hsa.symm)];simp only [List.append_assoc,List.nil_append,j8]
        exact⟨_,rfl,⟨_,_,rfl,(show Value.string (a8 (((([45])++(((s4.take 1)++([46]))++(s4.drop 1)))++([101]))++(bB 10 X0)))=_ by rw [hend]),rfl⟩,hw3⟩
      · 
       refine a7 (mv 1 rfl (aB rfl rfl rfl false (d6 (a:=n) (b:=1) rfl rfl) (a0 (aI rfl (aN (aD (aA (aA ?_))))))))
       have hsa:=nM hx hx00
       cases s0
       · 
        refine a7 (pf g1 0 rfl (aS rfl rfl (aY eK b_2 rfl) (a0 (aI rfl (aN (aD (sr (mv 1 rfl (bS rfl rfl rfl (r:= .string (a8 ((s4.take 1)++([101])))) rfl (fun w=>d8 (a:=s4.take 1) (b:= [101]) (by simp only [cO,List.length_nil,bJ];omega)) (mv 1 rfl (bD rfl rfl (v:= .int .u64 (IntKind.u64.wrap ((X0:Nat):Int))) (v':= .int .u64 X0) (eD (by first | omega | exact hle64)) (dQ rfl rfl (k:=1) (e:=65) [.int .u64 X0] (fun _=>by kernel_rfl) fun g170 v171 nb172=>?_))))))))))))
        have o173:=O1.mk_ (x:=X0) (b:=w.heap.size) nb172 hw1.size
        have e174:=nb172.ext
        have hw2:=hw1.trans e174
        refine cl (vs:= [.slice (some ⟨g170,0,none⟩) 1 1]) hw2 (jL rfl (gL o173 (show X0≤18446744073709551615 by omega))) rfl (by kernel_rfl) fun xr179 v177 r179 e178 hw3=>?_
        obtain rfl:=r179
        refine bS rfl rfl rfl (r:= .string (a8 (((s4.take 1)++([101]))++(bB 10 X0)))) rfl (fun w=>d8 (a:=(s4.take 1)++([101])) (b:=bB 10 X0) (by have htx:=k6 X0 hX0b;simp only [cL,cO,List.length_nil,bJ];omega)) (mv 2 rfl (a0 (aM (aL [.string (a8 (((s4.take 1)++([101]))++(bB 10 X0))),I0] rfl ⟨rfl,rfl,trivial⟩ ?_))))
        have hend:((s4.take 1)++([101]))++(bB 10 X0)=eJ x n:=by unfold eJ;rw [if_neg hx00,←hX0,hst,if_neg hn2,if_neg (of_decide_eq_false hsa.symm)];simp only [List.append_assoc,List.nil_append,j8]
        exact⟨_,rfl,⟨_,_,rfl,(show Value.string (a8 (((s4.take 1)++([101]))++(bB 10 X0)))=_ by rw [hend]),rfl⟩,hw3⟩
       · 
        refine a7 (pf g1 0 rfl (aS rfl rfl (aY eK b_2 rfl) (a0 (aP rfl (a7 (mv 1 rfl (bS rfl rfl rfl (r:= .string (a8 (([45])++(s4.take 1)))) rfl (fun w=>d8 (a:= [45]) (b:=s4.take 1) (by simp only [cO,List.length_nil,bJ];omega)) (mv 1 rfl (a0 (sr (mv 1 rfl (bS rfl rfl rfl (r:= .string (a8 ((([45])++(s4.take 1))++([101])))) rfl (fun w=>d8 (a:=([45])++(s4.take 1)) (b:= [101]) (by simp only [cL,cO,List.length_nil,bJ];omega)) (mv 1 rfl ?_)))))))))))))
        refine bD rfl rfl (v:= .int .u64 (IntKind.u64.wrap ((X0:Nat):Int))) (v':= .int .u64 X0) (eD (by first | omega | exact hle64)) (dQ rfl rfl (k:=1) (e:=65) [.int .u64 X0] (fun _=>by kernel_rfl) fun g180 v181 nb182=>?_)
        have o183:=O1.mk_ (x:=X0) (b:=w.heap.size) nb182 hw1.size
        have e184:=nb182.ext
        have hw2:=hw1.trans e184
        refine cl (vs:= [.slice (some ⟨g180,0,none⟩) 1 1]) hw2 (jL rfl (gL o183 (show X0≤18446744073709551615 by omega))) rfl (by kernel_rfl) fun xr189 v187 r189 e188 hw3=>?_
        obtain rfl:=r189
        refine bS rfl rfl rfl (r:= .string (a8 (((([45])++(s4.take 1))++([101]))++(bB 10 X0)))) rfl (fun w=>d8 (a:=(([45])++(s4.take 1))++([101])) (b:=bB 10 X0) (by have htx:=k6 X0 hX0b;simp only [cL,cO,List.length_nil,bJ];omega)) (mv 2 rfl (a0 (aM (aL [.string (a8 (((([45])++(s4.take 1))++([101]))++(bB 10 X0))),I0] rfl ⟨rfl,rfl,trivial⟩ ?_))))
        have hend:((([45])++(s4.take 1))++([101]))++(bB 10 X0)=eJ x n:=by unfold eJ;rw [if_neg hx00,←hX0,hst,if_neg hn2,if_pos (of_decide_eq_true hsa.symm)];simp only [List.append_assoc,List.nil_append,j8]
        exact⟨_,rfl,⟨_,_,rfl,(show Value.string (a8 (((([45])++(s4.take 1))++([101]))++(bB 10 X0)))=_ by rw [hend]),rfl⟩,hw3⟩
set_option maxHeartbeats 4000000 in
theorem UN {w:a6}{n:Int}(hx:Zi w s0 A na ca x)(la:na≤1048576)(hn:n<1∨40<n):
    aO aF 174 #[.agg #[.bool s0,.slice A na ca],.int .i64 n] w (Gv w (T2 (Is (.string (a8 []))) (Is (.int .i64 3)))):=by
 have Lx:ln x≤1048576:=aG hx.ln la
 refine bK Tryz.func174 rfl (n:=103) rfl (bq rfl) (args:= [.agg #[.bool s0,.slice A na ca],.int .i64 n]) (bE [(0,.agg #[.bool s0,.slice A na ca]),(1,.int .i64 n)] ⟨rfl,rfl,trivial⟩ (sr (bx [.bool s0,.slice A na ca] (Ext.refl w) rfl rfl rfl fun g1 v2 hb4 ge5 e3 hw1=>(mv 2 rfl (a0 (aA (aA ?_)))))))
 by_cases h1:n<1
 · 
  refine a7 (mv 1 rfl (aB rfl rfl rfl true (pB h1) (mv 3 rfl (pu (v:= .bool true) rfl (a0 (aP rfl (sr (mv 2 rfl (a0 (aM (bL (aL [.string (a8 ([])),.int .i64 3] rfl ⟨rfl,rfl,trivial⟩ ?_))))))))))))
  exact⟨_,rfl,⟨_,_,rfl,rfl,rfl⟩,hw1⟩
 · 
  refine a7 (mv 1 rfl (aB rfl rfl rfl false (mB) (mv 2 rfl (aB rfl rfl rfl true (qS (by omega)) (pu (v:= .bool true) rfl (a0 (aP rfl (sr (mv 2 rfl (a0 (aM (bL (aL [.string (a8 ([])),.int .i64 3] rfl ⟨rfl,rfl,trivial⟩ ?_)))))))))))))
  exact⟨_,rfl,⟨_,_,rfl,rfl,rfl⟩,hw1⟩
set_option maxHeartbeats 4000000 in
theorem UM {w:a6}(hx:Zi w s0 A na ca x)(la:na≤1048576)(hx0:x=0)(hn1:1≤n)(hn40:n≤40):
    aO aF 174 #[.agg #[.bool s0,.slice A na ca],.int .i64 n] w (Gv w (T2 (Is (.string (a8 [48]))) (Is (.int .i64 0)))):=by
 have Lx:ln x≤1048576:=aG hx.ln la
 obtain⟨s,hs⟩:∃s,s=bB 10 (Int.natAbs x):=⟨_,rfl⟩
 have hs48:s= [48]:=by rw [hs,hx0];rfl
 have hs256:∀c,c∈s→c<256:=fun c hc=>by rw [hs48] at hc;rw [jI] at hc;omega
 refine bK Tryz.func174 rfl (n:=103) rfl (bq rfl) (args:= [.agg #[.bool s0,.slice A na ca],.int .i64 n]) (bE [(0,.agg #[.bool s0,.slice A na ca]),(1,.int .i64 n)] ⟨rfl,rfl,trivial⟩ (sr (bx [.bool s0,.slice A na ca] (Ext.refl w) rfl rfl rfl fun g1 v2 hb4 ge5 e3 hw1=>(mv 2 rfl (a0 (aA (sr (mv 1 rfl (aB rfl rfl rfl false (cX (a:=n) (b:=1) rfl rfl) (mv 2 rfl (aB rfl rfl rfl false (d6 (a:=n) (b:=40) rfl rfl) (pu (v:= .bool false) rfl (aU ?_)))))))))))))
 refine aD (aI rfl (aN (aD (sr (pf g1 1 rfl (aS rfl rfl (aY eM hb4 rfl) (cl (vs:= [.slice A na ca]) hw1 (jL (s:=s) hs (hx.ext hw1).wi (hal:=(bQ la rfl))) rfl (by kernel_rfl) fun xr8 v6 r8 e7 hw2=>?_)))))))
 obtain rfl:=r8
 refine mv 1 rfl (a0 (aA (sr (mv 1 rfl (fV (a:=s) (b:= [48]) rfl rfl rfl hs256 true (nU (hs48)) (a0 (aP rfl (sr (mv 2 rfl (a0 (aM (bL (aL [.string (a8 ([48])),I0] rfl ⟨rfl,rfl,trivial⟩ ?_)))))))))))))
 exact⟨_,rfl,⟨_,_,rfl,rfl,rfl⟩,hw2⟩
theorem XU (hb:f<18446744073709551616)(h:¬fin f)(hm:f%4503599627370496≠0):(FloatKind.f64.format.order f f != some .eq)=true:=by
 show (Ieee.double.order f f != some .eq)=true
 obtain⟨s,t,hr⟩:∃s t,Ieee.double.read f= .nan s t:=by
  unfold fin mg at h
  unfold Ieee.Format.read
  simp only [tR,vZ,vY]
  rw [if_neg (by omega),if_neg (by omega),if_neg (by omega)]
  exact⟨_,_,rfl⟩
 unfold Ieee.Format.order
 rw [hr];rfl
set_option maxHeartbeats 4000000 in
theorem ZG {w:a6}(hb:f<18446744073709551616)(hf:¬fin f)(hm:f%4503599627370496≠0):
    aO aF 216 #[.float .f64 f] w (Gv w (Is (.bool true))):=by
 refine bK Tryz.func216 rfl (n:=6) rfl (bq rfl) (args:= [.float .f64 f]) (bE [(0,.float .f64 f)] ⟨rfl,trivial⟩ (sr (mv 1 rfl (a0 (sr (mv 2 rfl (bD rfl rfl (v:= .bool (FloatKind.f64.format.order f f != some .eq)) (v':= .bool true) (congrArg Value.bool (XU hb hf hm)) (mv 1 rfl (a0 (aM (aL [.bool true] rfl ⟨rfl,trivial⟩ ?_)))))))))))
 exact⟨_,rfl,rfl,(Ext.refl w)⟩
set_option maxHeartbeats 4000000 in
theorem ZH {w:a6}:
    aO aF 216 #[.float .f64 9218868437227405312] w (Gv w (Is (.bool false))):=by
 refine bK Tryz.func216 rfl (n:=6) rfl (bq rfl) (args:= [.float .f64 9218868437227405312]) (bE [(0,.float .f64 9218868437227405312)] ⟨rfl,trivial⟩ (sr (mv 1 rfl (a0 (sr (mv 2 rfl (bD rfl rfl (v:= .bool (FloatKind.f64.format.order 9218868437227405312 9218868437227405312 != some .eq)) (v':= .bool false) (congrArg Value.bool (show (FloatKind.f64.format.order 9218868437227405312 9218868437227405312 != some .eq)=false by decide)) (mv 1 rfl (a0 (aM (aL [F0] rfl ⟨rfl,trivial⟩ ?_)))))))))))
 exact⟨_,rfl,rfl,(Ext.refl w)⟩
set_option maxHeartbeats 4000000 in
theorem ZI {w:a6}:
    aO aF 216 #[.float .f64 18442240474082181120] w (Gv w (Is (.bool false))):=by
 refine bK Tryz.func216 rfl (n:=6) rfl (bq rfl) (args:= [.float .f64 18442240474082181120]) (bE [(0,.float .f64 18442240474082181120)] ⟨rfl,trivial⟩ (sr (mv 1 rfl (a0 (sr (mv 2 rfl (bD rfl rfl (v:= .bool (FloatKind.f64.format.order 18442240474082181120 18442240474082181120 != some .eq)) (v':= .bool false) (congrArg Value.bool (show (FloatKind.f64.format.order 18442240474082181120 18442240474082181120 != some .eq)=false by decide)) (mv 1 rfl (a0 (aM (aL [F0] rfl ⟨rfl,trivial⟩ ?_)))))))))))
 exact⟨_,rfl,rfl,(Ext.refl w)⟩
set_option maxHeartbeats 4000000 in
theorem ZL {w:a6}:
    aO aF 217 #[.float .f64 18442240474082181120,.int .i64 1] w (Gv w (Is (.bool false))):=by
 refine bK Tryz.func217 rfl (n:=15) rfl (bq rfl) (args:= [.float .f64 18442240474082181120,.int .i64 1]) (bE [(0,.float .f64 18442240474082181120),(1,.int .i64 1)] ⟨rfl,rfl,trivial⟩ (sr (mv 1 rfl (a0 (aA (sr (mv 1 rfl (aB rfl rfl rfl false (by decide) (a0 (aI rfl (sr (mv 1 rfl (aB rfl rfl rfl false (by decide) ?_)))))))))))))
 refine a0 (aI rfl (aN (aD (sr (mv 1 rfl (bD rfl rfl (v:= .bool (FloatKind.f64.format.order 18442240474082181120 9218868437227405311==some .gt)) (v':= .bool false) (congrArg Value.bool (show (FloatKind.f64.format.order 18442240474082181120 9218868437227405311==some .gt)=false by decide)) (mv 1 rfl (a0 (aM (aL [F0] rfl ⟨rfl,trivial⟩ ?_))))))))))
 exact⟨_,rfl,rfl,(Ext.refl w)⟩
set_option maxHeartbeats 4000000 in
theorem ZQ {w:a6}{s:Bool}(hx:Zi w s A n cap x)(la:n≤67108864)(hb:f<18446744073709551616)(hf:¬fin f)(hm:f%4503599627370496≠0):
    aO aF 173 #[.agg #[.bool s,.slice A n cap],.float .f64 f] w (Gv w (T2 (Is (.int .i64 0)) (Is (.int .i64 3)))):=by
 have Lx:ln x≤67108864:=aG hx.ln la
 refine bK Tryz.func173 rfl (n:=48) rfl (bq rfl) (args:= [.agg #[.bool s,.slice A n cap],.float .f64 f]) (bE [(0,.agg #[.bool s,.slice A n cap]),(1,.float .f64 f)] ⟨rfl,rfl,trivial⟩ (sr (bx [.bool s,.slice A n cap] (Ext.refl w) rfl rfl rfl fun g1 v2 hb4 ge5 e3 hw1=>(mv 2 rfl (a0 (aA (bG (sr (mv 1 rfl (cl (vs:= [.float .f64 f]) hw1 (ZG hb hf hm) rfl (by kernel_rfl) fun xr8 v6 r8 e7 hw2=>?_))))))))))
 obtain rfl:=r8
 refine mv 1 rfl (a0 (aP rfl (sr (mv 2 rfl (a0 (aM (eC (bL (aL [I0,.int .i64 3] rfl ⟨rfl,rfl,trivial⟩ ?_)))))))))
 exact⟨_,rfl,⟨_,_,rfl,rfl,rfl⟩,hw2⟩
set_option maxHeartbeats 4000000 in
theorem ZS {w:a6}{s:Bool}(hx:Zi w s A n cap x)(la:n≤67108864):
    aO aF 173 #[.agg #[.bool s,.slice A n cap],.float .f64 9218868437227405312] w (Gv w (T2 (Is (.int .i64 (-1))) (Is (.int .i64 0)))):=by
 have Lx:ln x≤67108864:=aG hx.ln la
 refine bK Tryz.func173 rfl (n:=48) rfl (bq rfl) (args:= [.agg #[.bool s,.slice A n cap],.float .f64 9218868437227405312]) (bE [(0,.agg #[.bool s,.slice A n cap]),(1,.float .f64 9218868437227405312)] ⟨rfl,rfl,trivial⟩ (sr (bx [.bool s,.slice A n cap] (Ext.refl w) rfl rfl rfl fun g1 v2 hb4 ge5 e3 hw1=>(mv 2 rfl (a0 (aA (bG (sr (mv 1 rfl (cl (vs:= [.float .f64 9218868437227405312]) hw1 (ZH) rfl (by kernel_rfl) fun xr8 v6 r8 e7 hw2=>?_))))))))))
 obtain rfl:=r8
 refine mv 1 rfl (a0 (aI rfl (sr (mv 1 rfl (cl (vs:= [.float .f64 9218868437227405312,.int .i64 1]) hw2 (ZN) rfl (by kernel_rfl) fun xr11 v9 r11 e10 hw3=>?_)))))
 obtain rfl:=r11
 refine mv 1 rfl (a0 (aP rfl (sr (mv 2 rfl (a0 (aM (eC (bL (aL [.int .i64 (-1),I0] rfl ⟨rfl,rfl,trivial⟩ ?_)))))))))
 exact⟨_,rfl,⟨_,_,rfl,rfl,rfl⟩,hw3⟩
set_option maxHeartbeats 4000000 in
theorem ZT {w:a6}{s:Bool}(hx:Zi w s A n cap x)(la:n≤67108864):
    aO aF 173 #[.agg #[.bool s,.slice A n cap],.float .f64 18442240474082181120] w (Gv w (T2 (Is (.int .i64 1)) (Is (.int .i64 0)))):=by
 have Lx:ln x≤67108864:=aG hx.ln la
 refine bK Tryz.func173 rfl (n:=48) rfl (bq rfl) (args:= [.agg #[.bool s,.slice A n cap],.float .f64 18442240474082181120]) (bE [(0,.agg #[.bool s,.slice A n cap]),(1,.float .f64 18442240474082181120)] ⟨rfl,rfl,trivial⟩ (sr (bx [.bool s,.slice A n cap] (Ext.refl w) rfl rfl rfl fun g1 v2 hb4 ge5 e3 hw1=>(mv 2 rfl (a0 (aA (bG (sr (mv 1 rfl (cl (vs:= [.float .f64 18442240474082181120]) hw1 (ZI) rfl (by kernel_rfl) fun xr8 v6 r8 e7 hw2=>?_))))))))))
 obtain rfl:=r8
 refine mv 1 rfl (a0 (aI rfl (sr (mv 1 rfl (cl (vs:= [.float .f64 18442240474082181120,.int .i64 1]) hw2 (ZL) rfl (by kernel_rfl) fun xr11 v9 r11 e10 hw3=>?_)))))
 obtain rfl:=r11
 refine mv 1 rfl (a0 (aI rfl (sr (mv 1 rfl (cl (vs:= [.float .f64 18442240474082181120,.int .i64 (-1)]) hw3 (ZO) rfl (by kernel_rfl) fun xr14 v12 r14 e13 hw4=>?_)))))
 obtain rfl:=r14
 refine mv 1 rfl (a0 (aP rfl (sr (mv 2 rfl (a0 (aM (eC (bL (aL [.int .i64 1,I0] rfl ⟨rfl,rfl,trivial⟩ ?_)))))))))
 exact⟨_,rfl,⟨_,_,rfl,rfl,rfl⟩,hw4⟩
end
section
open Go.RowKit
open Ieee
theorem W3:cU (3*2^bM) 1=4613937818241073152:=by
 have e:rv 4613937818241073152=3*2^bM:=by
  obtain⟨p,hp⟩:∃p,p=1023:=⟨_,rfl⟩
  have h:=lB (p:=p) (m:=6755399441055744) (bR (by decide)) (hm:=(by decide))
  rw [show p*4503599627370496+6755399441055744=4613937818241073152 by subst hp;decide] at h
  have e0:bM=51+p:=by rw [i6,hp]
  rw [h,e0,bX,←bH]
 have h:=JV (D:=1) (r:=4613937818241073152) (by decide)
 rw [Nat.one_mul,e] at h
 unfold cU
 rw [h];rfl
theorem VW:mU (sg true 3)=13837309855095848960:=by
 unfold mU
 have e1:(sg true 3).natAbs=3:=rfl
 have e2:decide (sg true 3<0)=true:=by decide
 rw [e1,e2,W3];rfl
theorem a1q:(FloatKind.f64.format.order (mU (sg true 3)) 13837309855095848960==some .eq)=true:=by
 rw [VW]
 show (double.order 13837309855095848960 13837309855095848960==some .eq)=true
 rw [yG (by decide) (by decide) (by decide) (by decide),Int.compare_eq_eq.2 rfl];rfl
set_option maxHeartbeats 4000000 in
theorem Z5 {w:a6}:
    aO aF 29 #[] w (Gv w (Is (.bool true))):=by
 refine bK Tryz.func29 rfl (n:=7) rfl (bq rfl) (args:= []) (bE [] trivial (sr (mv 1 rfl (a0 (sr (dQ rfl rfl (k:=1) (e:=65) [.int .u64 3] (fun _=>by kernel_rfl) fun g1 v2 nb3=>?_))))))
 have o4:=O1.mk_ (x:=3) (b:=w.heap.size) nb3 (Ext.refl w).size
 have e5:=nb3.ext
 have hw1:=(Ext.refl w).trans e5
 have o7:=iK o4 (show 3≤18446744073709551615 by decide) (show 3≠0 by decide)
 have j6:=hZ (show 3≤18446744073709551615 by decide) (show 3≠0 by decide)
 have z8:=AA true (show 3≠0 by decide) j6 o7
 refine pu (v:= .agg #[.bool true,.slice (some ⟨g1,0,none⟩) 1 1]) rfl (cl (vs:= [.agg #[.bool true,.slice (some ⟨g1,0,none⟩) 1 1]]) hw1 (LI z8.zi (z8.le (aG (rQ (s:=true) (Nat.le_of_eq j6.symm)) (by decide)))) rfl (by kernel_rfl) fun xr11 v9 r11 e10 hw2=>?_)
 obtain rfl:=r11
 refine mv 1 rfl (a0 (sr (mv 1 rfl (bD rfl rfl (v:= .bool (FloatKind.f64.format.order (mU (sg true 3)) 13837309855095848960==some .eq)) (v':= .bool true) (congrArg Value.bool a1q) (mv 1 rfl (a0 (aM (aL [.bool true] rfl ⟨rfl,trivial⟩ ?_))))))))
 exact⟨_,rfl,rfl,hw2⟩
def FL (b n:Nat)(xs:List Nat)(v:aH)(w:a6):Prop:=∃g,v= .slice (some ⟨g,0,none⟩) n n∧b≤g∧Bk w g 73 (xs.map iU)
theorem a0P (hi:i<l.length)(hx:i<xs.length)(h:l.take i=xs.take i):(l.set i (xs.getD i 0)).take (i+1)=xs.take (i+1):=by
 rw [List.take_add_one,List.take_add_one,List.take_set_of_le (b8 _),h,List.getElem?_set_self hi,bC,cJ hx]
 rfl
set_option maxHeartbeats 4000000 in
theorem LD {w:a6}{b0:Nat}(hb0:b0≤w.heap.size)(hx:Rd w A n cap xs)(hn:n≤1048576):
    aO aF 120 #[.slice A n cap] w (Gv w (FL b0 n xs)):=by
 have hlen:=hx.len
 refine bK Tryz.func120 rfl (n:=23) rfl (bq rfl) (args:= [.slice A n cap]) (bE [(0,.slice A n cap)] ⟨rfl,trivial⟩ (sr (mv 1 rfl (a0 (sr (mv 1 rfl (pu (v:= .int .i64 n) rfl (l7 rfl (k:=n) rfl rfl rfl oP KQ rfl fun g1 v2 hg3 hb4 e5=>?_))))))))
 rw [T7] at hb4
 have ge6:w.heap.size≤g1:=by rw [←hg3];exact (Ext.refl w).size
 have ne8:0<cap→∀a,A=some a→a.block≠g1:=fun hc a ha=>by have:=(hx).rv.blk a ha hc;omega
 clear hg3
 have hw1:=(Ext.refl w).trans e5
 refine mv 1 rfl (a0 (aA (sr (mv 1 rfl (a0 (bG ?_))))))
 refine d4 (T:=a6×Nat×List Nat)
  (fun⟨wr,i,l⟩=> [(0,.slice A n cap),(3,.slice (some ⟨g1,0,none⟩) n n),(4,.int .i64 i)])
  (fun⟨wr,i,l⟩=>wr)
  (fun⟨wr,i,l⟩=>(Ext w wr)∧(i≤n)∧(Bk wr g1 73 (l.map iU))∧(l.length=n)∧(l.take i=xs.take i)∧(Rd wr A n cap xs))
  (fun⟨wr,i,l⟩=>n-i)
  (⟨v2,0,_⟩:a6×Nat×List Nat) ⟨hw1,(bW _),hb4,(List.length_replicate (n:=n) (a:=0)),(by rw [List.take_zero,List.take_zero]),(hx.ext e5)⟩ rfl ⟨rfl,rfl,rfl,trivial⟩ ?_
 rintro⟨wr,i,l⟩ ⟨hw1,hi,hb,hl,hv,rl0⟩
 refine cC [(0,.slice A n cap),(3,.slice (some ⟨g1,0,none⟩) n n),(4,.int .i64 i)] wr rfl ⟨rfl,rfl,rfl,trivial⟩ (aA (aA ?_))
 by_cases hin:i<n
 · 
  refine a7 (mv 2 rfl (pu (v:= .int .i64 n) rfl (aB rfl rfl rfl true (dB (a:=i) (b:=n) rfl rfl) (a0 (aP rfl (aN (aD (aA (bG (a7 (mv 4 rfl ?_)))))))))))
  obtain⟨p9,hp9,hc9,hv9⟩:=(rl0).at (i:=i) (by omega)
  refine bT rfl rfl rfl bU bN i rfl p9 hp9 (aS rfl rfl (cZ d7 hc9) (pu (v:= .float .f64 (xs.getD i 0)) rfl (bT rfl rfl rfl oP q6 i rfl ⟨g1,i,none⟩ (dP _ _) ?_)))
  have hb11:=hb
  refine eB rfl rfl rfl q6 rfl hb11 (fK (by rw [hl];omega)) rfl ((l.set i (xs.getD i 0)).map iU) (X8 _ _ _) fun v10 hb12 u13 hs14=>?_
  have hw2:=u13.ext hw1 ge6
  refine aU (cA (aD (a7 (mv 1 rfl (aE rfl rfl rfl ((i+1:Nat):Int) (bF (a:=i) (b:=1) rfl rfl) (mv 1 rfl (aU (cH (⟨v10,i+1,_⟩:a6×Nat×List Nat) ⟨hw2,(by omega),hb12,(by rw [List.length_set];exact hl),(a0P (by omega) (by omega) hv),(Rd.updL rl0 u13 ne8)⟩ (show n-(i+1)<n-i by omega) rfl ⟨rfl,rfl,rfl,trivial⟩))))))))
 · 
  have hie:i=n:=by omega
  have hlx:l=xs:=by rw [hie,List.take_of_length_le (by omega),List.take_of_length_le (by omega)] at hv;exact hv
  refine a7 (mv 2 rfl (pu (v:= .int .i64 n) rfl (aB rfl rfl rfl false (cX (a:=i) (b:=n) rfl rfl) (a0 (aI rfl (cR (cN (cP (cQ (aD (sr (mv 2 rfl (aU ?_)))))))))))))
  refine aD (aM (aL [.slice (some ⟨g1,0,none⟩) n n] rfl ⟨rfl,trivial⟩ ?_))
  have hB:=hb
  rw [hlx] at hB
  exact⟨_,rfl,⟨g1,rfl,aG hb0 ge6,hB⟩,hw1⟩
end
section
open Go.RowKit
theorem Y7 {w:a6}{b:Bool}:∀e w',Gv w (Is (.bool b)) e w'→AL b w e w':=by
 rintro e w' ⟨v,rfl,rfl,hx⟩
 exact⟨rfl,hx⟩
set_option maxHeartbeats 4000000 in
theorem YO {w:a6}{n:Int}(hx:Zi w sa Aa na ca x)(la:na≤1048576)(hn:n<1∨40<n):
    aO aF 175 #[.agg #[.bool sa,.slice Aa na ca],.int .i64 n] w (Gv w (T2 (Is (.string (a8 []))) (Is (.int .i64 3)))):=by
 refine bK Tryz.func175 rfl (n:=113) rfl (bq rfl) (args:= [.agg #[.bool sa,.slice Aa na ca],.int .i64 n]) (bE [(0,.agg #[.bool sa,.slice Aa na ca]),(1,.int .i64 n)] ⟨rfl,rfl,trivial⟩ (sr (bx [.bool sa,.slice Aa na ca] (Ext.refl w) rfl rfl rfl fun g1 v2 hb4 ge5 e3 hw1=>(mv 2 rfl (a0 (aA (aA ?_)))))))
 by_cases h1:n<1
 · 
  refine a7 (mv 1 rfl (aB rfl rfl rfl true (pB h1) (mv 3 rfl (pu (v:= .bool true) rfl (a0 (aP rfl (sr (mv 2 rfl (a0 (aM (bL (aL [.string (a8 ([])),.int .i64 3] rfl ⟨rfl,rfl,trivial⟩ ?_))))))))))))
  exact⟨_,rfl,⟨_,_,rfl,rfl,rfl⟩,hw1⟩
 · 
  refine a7 (mv 1 rfl (aB rfl rfl rfl false (mB) (mv 2 rfl (aB rfl rfl rfl true (qS (by omega)) (pu (v:= .bool true) rfl (a0 (aP rfl (sr (mv 2 rfl (a0 (aM (bL (aL [.string (a8 ([])),.int .i64 3] rfl ⟨rfl,rfl,trivial⟩ ?_)))))))))))))
  exact⟨_,rfl,⟨_,_,rfl,rfl,rfl⟩,hw1⟩
set_option maxHeartbeats 4000000 in
theorem YN {w:a6}(hx:Zi w sa Aa na ca x)(la:na≤1048576)(hS:Signs w)(hx0:x=0)(hn1:1≤n)(hn40:n≤40):
    aO aF 175 #[.agg #[.bool sa,.slice Aa na ca],.int .i64 n] w (Gv w (T2 (Is (.string (a8 [48]))) (Is (.int .i64 0)))):=by
 have Lx:ln x≤1048576:=aG hx.ln la
 refine bK Tryz.func175 rfl (n:=113) rfl (bq rfl) (args:= [.agg #[.bool sa,.slice Aa na ca],.int .i64 n]) (bE [(0,.agg #[.bool sa,.slice Aa na ca]),(1,.int .i64 n)] ⟨rfl,rfl,trivial⟩ (sr (bx [.bool sa,.slice Aa na ca] (Ext.refl w) rfl rfl rfl fun g1 v2 hb4 ge5 e3 hw1=>(mv 2 rfl (a0 (aA (aA ?_)))))))
 have h48:bB 10 (Int.natAbs x)= [48]:=by rw [hx0];rfl
 refine a7 (mv 1 rfl (aB rfl rfl rfl false (cX (a:=n) (b:=1) rfl rfl) (mv 2 rfl (aB rfl rfl rfl false (d6 (a:=n) (b:=40) rfl rfl) (pu (v:= .bool false) rfl (a0 (aI rfl (aN (aD (sr (pf g1 1 rfl (aS rfl rfl (aY eM hb4 rfl) (cl (vs:= [.slice Aa na ca]) hw1 (BQ (hS.ext hw1) (hx.ext hw1).wi (bQ la rfl)) rfl (by kernel_rfl) fun xr8 v6 r8 e7 hw2=>?_)))))))))))))
 obtain rfl:=r8
 refine mv 1 rfl (a0 (aA (sr (mv 1 rfl (fV (a:=bB 10 (Int.natAbs x)) (b:= [48]) rfl rfl rfl (fun b hb=>by rw [h48,jI] at hb;omega) true (nU (h48)) (a0 (aP rfl (sr (mv 3 rfl (a0 (aM (bL (aL [.string (a8 (bB 10 (Int.natAbs x))),I0] rfl ⟨rfl,rfl,trivial⟩ ?_)))))))))))))
 exact⟨_,rfl,⟨_,_,rfl,(show Value.string _=_ by rw [h48]),rfl⟩,hw2⟩
theorem L4 {w:a6}{b b':Nat}{d:Nat}(hx:Own w b 65 1 A n c ((wd k).map aW))(hl:n≤1099511627776)(hy:Own w b' 65 1 B m d ((wd k).map aW))(hl':m≤1099511627776):
  aO aF 108 #[.slice A n c,.slice B m d] w (Gv w (Is (.bool true))):=by
 have h:=TU (hx.rd (pN _)) hl (hy.rd (pN _)) hl'
 rw [decide_eq_true rfl] at h
 exact h.mono YH
set_option maxHeartbeats 4000000 in
theorem pG {w:a6}{b1 b2:Nat}{nb:Nat}(ha:Zr w b1 sa Aa na ca x)(la:na≤1099511627776)(hb:Zr w b2 sb Ab nb cb x)(lb:nb≤1099511627776):
    aO aF 36 #[.agg #[.bool sa,.slice Aa na ca],.agg #[.bool sb,.slice Ab nb cb]] w (Gv w (Is (.bool true))):=by
 refine bK Tryz.func36 rfl (n:=17) rfl (bq rfl) (args:= [.agg #[.bool sa,.slice Aa na ca],.agg #[.bool sb,.slice Ab nb cb]]) (bE [(0,.agg #[.bool sa,.slice Aa na ca]),(1,.agg #[.bool sb,.slice Ab nb cb])] ⟨rfl,rfl,trivial⟩ (sr (bx [.bool sa,.slice Aa na ca] (Ext.refl w) rfl rfl rfl fun g1 v2 hb4 ge5 e3 hw1=>(pI [.bool sb,.slice Ab nb cb] hw1 hb4.lt rfl rfl rfl fun g6 v7 hb9 ge10 q11 e8 hw2=>(mv 1 rfl (a0 (aA ?_)))))))
 by_cases hx0:x<0
 · 
  obtain rfl:sa=true:=by rw [ha.sgn,decide_eq_true hx0]
  obtain rfl:sb=true:=by rw [hb.sgn,decide_eq_true hx0]
  refine a7 (pf g1 0 rfl (aS rfl rfl (aY eK (hb4.ext e8) rfl) (pf g6 0 rfl (aS rfl rfl (aY eK hb9 rfl) (pu (v:= .bool true) rfl (mv 1 rfl (pf g1 1 rfl (aS rfl rfl (aY eM (hb4.ext e8) rfl) (pf g6 1 rfl (aS rfl rfl (aY eM hb9 rfl) (cl (vs:= [.slice Aa na ca,.slice Ab nb cb]) hw2 (L4 (ha.ext (e3.trans e8)).own la (hb.ext (e3.trans e8)).own lb) rfl (by kernel_rfl) fun xr14 v12 r14 e13 hw3=>?_)))))))))))
  obtain rfl:=r14
  refine pu (v:= .bool true) rfl (mv 1 rfl (a0 (aM (aL [.bool true] rfl ⟨rfl,trivial⟩ ?_))))
  exact⟨_,rfl,rfl,hw3⟩
 · 
  obtain rfl:sa=false:=by rw [ha.sgn,decide_eq_false hx0]
  obtain rfl:sb=false:=by rw [hb.sgn,decide_eq_false hx0]
  refine a7 (pf g1 0 rfl (aS rfl rfl (aY eK (hb4.ext e8) rfl) (pf g6 0 rfl (aS rfl rfl (aY eK hb9 rfl) (pu (v:= .bool true) rfl (mv 1 rfl (pf g1 1 rfl (aS rfl rfl (aY eM (hb4.ext e8) rfl) (pf g6 1 rfl (aS rfl rfl (aY eM hb9 rfl) (cl (vs:= [.slice Aa na ca,.slice Ab nb cb]) hw2 (L4 (ha.ext (e3.trans e8)).own la (hb.ext (e3.trans e8)).own lb) rfl (by kernel_rfl) fun xr17 v15 r17 e16 hw3=>?_)))))))))))
  obtain rfl:=r17
  refine pu (v:= .bool true) rfl (mv 1 rfl (a0 (aM (aL [.bool true] rfl ⟨rfl,trivial⟩ ?_))))
  exact⟨_,rfl,rfl,hw3⟩
theorem RS:∀b,b∈eJ x n→b<256:=by
 intro b hb
 unfold eJ q9 at hb
 split at hb
 ·rw [jI] at hb;omega
 ·simp only [nI] at hb
  rcases hb with (h | h | h) | h | h
  ·split at h
   ·rw [jI] at h;omega
   ·cases h
  ·have:=kU (List.mem_of_mem_take h);omega
  ·split at h
   ·rcases nI.1 h with h | h
    ·rw [jI] at h;omega
    ·have:=kU (gK h);omega
   ·cases h
  ·rw [jI] at h;omega
  ·have:=(Q6 (m:=(gO x.natAbs n))).1 b h;omega
theorem XG:ln (eL f)≤34:=by
 unfold ln eL
 rw [p8]
 exact aG (pC (h:=(by have:=JE f;omega))) (by decide)
theorem a1h:∃(f:Nat) (e:Int),∀{w:a6}{s:Bool}{A:Option aC}{n cap:Nat}{t:Bool}{B:Option aC}{m cap2:Nat},Zi w s A n cap x→n≤1048576→Zi w t B m cap2 y→m≤1048576→
  aO aF 168 #[.agg #[.bool s,.slice A n cap],.agg #[.bool t,.slice B m cap2]] w (Gv w (T2 (Is (.int .u64 f)) (Is (.int .i64 e))))∧aO aF 169 #[.agg #[.bool s,.slice A n cap],.agg #[.bool t,.slice B m cap2]] w (Gv w (T2 (Is (.float .f64 f)) (Is (.int .i64 e)))):=by
 by_cases h0:y=0
 ·exact⟨0,4,fun hx la hy lb=>⟨UQ hx (aG la (by decide)) hy (aG lb (by decide)) h0,ZE hx (aG la (by decide)) hy (aG lb (by decide)) h0⟩⟩
 ·exact⟨vA x y,0,fun hx la hy lb=>⟨UR hx (aG la (by decide)) hy (aG lb (by decide)) h0,ZF hx (aG la (by decide)) hy (aG lb (by decide)) h0⟩⟩
theorem DX (hb:f<18446744073709551616):∃z e:Int,ln z≤34∧∀{w:a6},aO aF 32 #[.int .u64 f] w (Gv w (T2 (ZR w.heap.size z) (Is (.int .i64 e))))∧aO aF 34 #[.float .f64 f] w (Gv w (T2 (ZR w.heap.size z) (Is (.int .i64 e)))):=by
 by_cases hf:fin f
 ·exact⟨iV f,0,XF hf,fun {w}=>⟨UH hb hf,ZD (b8 _) hb hf⟩⟩
 ·exact⟨0,3,by decide,fun {w}=>⟨UG hb hf,ZB (b8 _) hb hf⟩⟩
theorem MX (hb:f<18446744073709551616):∃z k e:Int,ln z≤34∧∀{w:a6},aO aF 33 #[.int .u64 f] w (Gv w (T3 (ZR w.heap.size z) (Is (.int .i64 k)) (Is (.int .i64 e))))∧aO aF 35 #[.float .f64 f] w (Gv w (T3 (ZR w.heap.size z) (Is (.int .i64 k)) (Is (.int .i64 e)))):=by
 by_cases hf:fin f
 ·exact⟨eL f,eX f,0,XG,fun {w}=>⟨UL hb hf,D2 (b8 _) hb hf⟩⟩
 ·exact⟨0,0,3,by decide,fun {w}=>⟨UK hb hf,LG (b8 _) hb hf⟩⟩
theorem a1i (hb:f<18446744073709551616):∃c e:Int,∀{w:a6}{s:Bool}{A:Option aC}{n cap:Nat},Zi w s A n cap x→n≤1048576→
  aO aF 172 #[.agg #[.bool s,.slice A n cap],.int .u64 f] w (Gv w (T2 (Is (.int .i64 c)) (Is (.int .i64 e))))∧aO aF 173 #[.agg #[.bool s,.slice A n cap],.float .f64 f] w (Gv w (T2 (Is (.int .i64 c)) (Is (.int .i64 e)))):=by
 by_cases hf:fin f
 ·exact⟨_,0,fun hx l=>⟨UY hx (aG l (by decide)) hb hf,ZU hx (aG l (by decide)) hb hf⟩⟩
 ·by_cases hm:f%4503599627370496=0
  ·have hf2:=hf
   unfold fin mg at hf2
   by_cases hs:f<9223372036854775808
   ·obtain rfl:f=9218868437227405312:=by omega
    exact⟨-1,0,fun hx l=>⟨UW hx (aG l (by decide)) hb hf hm hs,ZS hx (aG l (by decide))⟩⟩
   ·obtain rfl:f=18442240474082181120:=by omega
    exact⟨1,0,fun hx l=>⟨UX hx (aG l (by decide)) hb hf hm (by omega),ZT hx (aG l (by decide))⟩⟩
  ·exact⟨0,3,fun hx l=>⟨UV hx (aG l (by decide)) hb hf hm,ZQ hx (aG l (by decide)) hb hf hm⟩⟩
theorem a1g {n:Int}:∃(bs:List Nat) (e:Int),(∀b,b∈bs→b<256)∧∀{w:a6}{s:Bool}{A:Option aC}{k cap:Nat},Zi w s A k cap x→k≤1048576→Signs w→
  aO aF 174 #[.agg #[.bool s,.slice A k cap],.int .i64 n] w (Gv w (T2 (Is (.string (a8 bs))) (Is (.int .i64 e))))∧aO aF 175 #[.agg #[.bool s,.slice A k cap],.int .i64 n] w (Gv w (T2 (Is (.string (a8 bs))) (Is (.int .i64 e)))):=by
 by_cases hn:n<1∨40<n
 ·exact⟨[],3,by simp,fun hx l _=>⟨UN hx l hn,YO hx l hn⟩⟩
 ·obtain⟨q,rfl⟩:=Int.eq_ofNat_of_zero_le (show 0≤n by omega)
  by_cases h0:x=0
  ·exact⟨[48],0,by decide,fun hx l hS=>⟨UM hx l h0 (by omega) (by omega),YN hx l hS h0 (by omega) (by omega)⟩⟩
  ·exact⟨eJ x q,0,RS,fun hx l hS=>⟨UO hx l h0 (by omega) (by omega),YP hx l hS h0 (by omega) (by omega)⟩⟩
theorem FC {w:a6}(h:Rd w A n c xs):∀x,x∈xs→x<18446744073709551616:=fun x hx=>by have:=h.wf x hx;rwa [cF] at this
theorem Z3 {w:a6}(hx:Rd w A n cap xs)(hn:n≤1048576):
  aO aF 120 #[.slice A n cap] w (Gv w (fun v w'=>∃A2 c2,v= .slice A2 n c2∧Rf w' A2 n c2 xs)):=by
 refine (LD (b8 _) hx hn).mono ?_
 rintro e w' ⟨v,rfl,⟨g,rfl,hg,hb⟩,he⟩
 exact⟨_,rfl,⟨_,_,rfl,hb.rf0 (FC hx) hx.len (by omega)⟩,he⟩
set_option maxHeartbeats 8000000 in
set_option maxRecDepth 20000 in
theorem yX {w:a6}{k:Int}{nb:Nat}(hx:Zi w sa Aa na ca x)(la:na≤1048576)(hy:Zi w sb Ab nb cb y)(lb:nb≤1048576)(hf64:f<18446744073709551616)(hl:Rd w C m c fs)(hm:m≤1048576)(hbs:∀b,b∈bs→b<256)(hlen:bs.length≤1048576):
    aO aF 110 #[.agg #[.int .i64 k,.bool sa,.slice Aa na ca,.bool sb,.slice Ab nb cb,.int .u64 f,.slice C m c,.string (a8 bs),.int .i64 nn]] w (Gv w (Is (.bool true))):=by
 refine bK Tryz.func110 rfl (n:=103) rfl (bq rfl) (args:= [.agg #[.int .i64 k,.bool sa,.slice Aa na ca,.bool sb,.slice Ab nb cb,.int .u64 f,.slice C m c,.string (a8 bs),.int .i64 nn]]) (bE [(0,.agg #[.int .i64 k,.bool sa,.slice Aa na ca,.bool sb,.slice Ab nb cb,.int .u64 f,.slice C m c,.string (a8 bs),.int .i64 nn])] ⟨rfl,trivial⟩ (sr (bx [.int .i64 k,.bool sa,.slice Aa na ca,.bool sb,.slice Ab nb cb,.int .u64 f,.slice C m c,.string (a8 bs),.int .i64 nn] (Ext.refl w) rfl rfl rfl fun g1 v2 hb4 ge5 e3 hw1=>(mv 1 rfl (a0 (aA (sr (pf g1 0 rfl (aS rfl rfl (aY (fun _=>by kernel_rfl) hb4 rfl) (a0 (bG (aA ?_))))))))))))
 by_cases hk1:k=1
 · 
  refine a7 (aB rfl rfl rfl true (gD hk1) (mv 1 rfl (a0 (aP rfl (sr (pf g1 1 rfl (lo bO hb4 [.bool sa,.slice Aa na ca] rfl rfl rfl (cl (vs:= [.agg #[.bool sa,.slice Aa na ca]]) hw1 (US (hx.ext hw1) (bQ la rfl)) rfl (by kernel_rfl) fun xr8 v6 r8 e7 hw2=>?_))))))))
  obtain rfl:=r8
  refine mv 1 rfl (a0 (sr (pf g1 1 rfl (lo bO (hb4.ext e7) [.bool sa,.slice Aa na ca] rfl rfl rfl (cl (vs:= [.agg #[.bool sa,.slice Aa na ca]]) hw2 (LI (hx.ext hw2) (bQ la rfl)) rfl (by kernel_rfl) fun xr11 v9 r11 e10 hw3=>?_)))))
  obtain rfl:=r11
  refine mv 1 rfl (a0 (sr (mv 1 rfl (pu (v:= .int .u64 ((mU x:Nat):Int)) rfl (mv 1 rfl (aB rfl rfl rfl true (dA (a:=mU x) (b:=mU x) rfl rfl) (mv 1 rfl (a0 (aM (eC (bL (aL [.bool true] rfl ⟨rfl,trivial⟩ ?_))))))))))))
  exact⟨_,rfl,rfl,hw3⟩
 · 
  refine a7 (aB rfl rfl rfl false (jH hk1) (mv 1 rfl (a0 (aI rfl (aA ?_)))))
  by_cases hk2:k=2
  · 
   obtain⟨fr,er,hbo⟩:=a1h (x:=x) (y:=y)
   refine a7 (aB rfl rfl rfl true (gD hk2) (mv 1 rfl (a0 (aP rfl (sr (pf g1 1 rfl (lo bO hb4 [.bool sa,.slice Aa na ca] rfl rfl rfl (pf g1 3 rfl (lo bO hb4 [.bool sb,.slice Ab nb cb] rfl rfl rfl (dD rfl rfl (vs:= [.agg #[.bool sa,.slice Aa na ca],.agg #[.bool sb,.slice Ab nb cb]]) (by kernel_rfl) (by decide) (hbo (hx.ext hw1) (bQ la rfl) (hy.ext hw1) (bQ lb rfl)).1 ?_))))))))))
   rintro _ v12 ⟨xr14,rfl,r14,e13⟩
   refine dE ?_
   have hw2:=hw1.trans e13
   obtain⟨_,_,rfl,rfl,rfl⟩:=r14
   refine mv 1 rfl (pu (v:= .int .u64 fr) rfl (pu (v:= .int .i64 er) rfl (mv 2 rfl (a0 (sr (pf g1 1 rfl (lo bO (hb4.ext e13) [.bool sa,.slice Aa na ca] rfl rfl rfl (pf g1 3 rfl (lo bO (hb4.ext e13) [.bool sb,.slice Ab nb cb] rfl rfl rfl (dD rfl rfl (vs:= [.agg #[.bool sa,.slice Aa na ca],.agg #[.bool sb,.slice Ab nb cb]]) (by kernel_rfl) (by decide) (hbo (hx.ext hw2) (bQ la rfl) (hy.ext hw2) (bQ lb rfl)).2 ?_))))))))))
   rintro _ v16 ⟨xr18,rfl,r18,e17⟩
   refine dE ?_
   have hw3:=hw2.trans e17
   obtain⟨_,_,rfl,rfl,rfl⟩:=r18
   refine mv 1 rfl (pu (v:= .float .f64 fr) rfl (pu (v:= .int .i64 er) rfl (mv 2 rfl (a0 (sr (mv 1 rfl (pu (v:= .int .u64 fr) rfl (mv 1 rfl (aB rfl rfl rfl true (dA (a:=fr) (b:=fr) rfl rfl) (mv 3 rfl (aB rfl rfl rfl true (gD rfl) (pu (v:= .bool true) rfl (mv 1 rfl ?_)))))))))))))
   refine a0 (aM (eC (bL (aL [.bool true] rfl ⟨rfl,trivial⟩ ?_))))
   exact⟨_,rfl,rfl,hw3⟩
  · 
   refine a7 (aB rfl rfl rfl false (jH hk2) (mv 1 rfl (a0 (aI rfl (aA ?_)))))
   by_cases hk7:k=7
   · 
    refine a7 (aB rfl rfl rfl true (gD hk7) (mv 1 rfl (a0 (aP rfl (sr (pf g1 7 rfl (aS rfl rfl (aY (fun _=>by kernel_rfl) hb4 rfl) (cl (vs:= [.string (a8 bs)]) hw1 (UP hbs (bQ hlen rfl)) rfl (by kernel_rfl) fun xr22 v20 r22 e21 hw2=>?_))))))))
    obtain⟨_,_,rfl,rfl,rfl⟩:=r22
    refine mv 1 rfl (pu (v:= .int .u64 (((jC bs).1:Nat):Int)) rfl (pu (v:= .int .i64 ((jC bs).2)) rfl (mv 2 rfl (a0 (sr (pf g1 7 rfl (aS rfl rfl (aY (fun _=>by kernel_rfl) (hb4.ext e21) rfl) (cl (vs:= [.string (a8 bs)]) hw2 (Z8 hbs (bQ hlen rfl)) rfl (by kernel_rfl) fun xr26 v24 r26 e25 hw3=>?_))))))))
    obtain⟨_,_,rfl,rfl,rfl⟩:=r26
    refine mv 1 rfl (pu (v:= .float .f64 ((jC bs).1)) rfl (pu (v:= .int .i64 ((jC bs).2)) rfl (mv 2 rfl (a0 (sr (mv 1 rfl (pu (v:= .int .u64 (((jC bs).1:Nat):Int)) rfl (mv 1 rfl (aB rfl rfl rfl true (dA (a:=(jC bs).1) (b:=(jC bs).1) rfl rfl) (mv 3 rfl (aB rfl rfl rfl true (gD rfl) (pu (v:= .bool true) rfl (mv 1 rfl ?_)))))))))))))
    refine a0 (aM (eC (bL (aL [.bool true] rfl ⟨rfl,trivial⟩ ?_))))
    exact⟨_,rfl,rfl,hw3⟩
   · 
    refine a7 (aB rfl rfl rfl false (jH hk7) (mv 1 rfl (a0 (aI rfl (aN (cA (aD (sr (pf g1 6 rfl (aS rfl rfl (aY (fun _=>by kernel_rfl) hb4 rfl) (cl (vs:= [.slice C m c]) hw1 (IK (hl.ext hw1) (bQ hm rfl)) rfl (by kernel_rfl) fun xr30 v28 r30 e29 hw2=>?_)))))))))))
    obtain⟨_,_,rfl,rfl,rfl⟩:=r30
    refine mv 1 rfl (pu (v:= .int .u64 ((iI fs:Nat):Int)) rfl (pu (v:= .int .i64 (kO fs)) rfl (mv 2 rfl (a0 (sr (pf g1 6 rfl (aS rfl rfl (aY (fun _=>by kernel_rfl) (hb4.ext e29) rfl) (cl (vs:= [.slice C m c]) hw2 (Z3 (hl.ext hw2) hm) rfl (by kernel_rfl) fun xr34 v32 r34 e33 hw3=>?_))))))))
    obtain⟨Af35,cf35,rfl,rf35⟩:=r34
    refine cl (vs:= [.slice Af35 m cf35]) hw3 (D1 rf35 (bQ hm rfl)) rfl (by kernel_rfl) fun xr38 v36 r38 e37 hw4=>?_
    obtain⟨_,_,rfl,rfl,rfl⟩:=r38
    refine mv 1 rfl (pu (v:= .float .f64 (iI fs)) rfl (pu (v:= .int .i64 (kO fs)) rfl (mv 2 rfl (a0 (sr (mv 1 rfl (pu (v:= .int .u64 ((iI fs:Nat):Int)) rfl (mv 1 rfl (aB rfl rfl rfl true (dA (a:=iI fs) (b:=iI fs) rfl rfl) (mv 3 rfl (aB rfl rfl rfl true (gD rfl) (pu (v:= .bool true) rfl (mv 1 rfl ?_)))))))))))))
    refine a0 (aM (aL [.bool true] rfl ⟨rfl,trivial⟩ ?_))
    exact⟨_,rfl,rfl,hw4⟩
set_option maxHeartbeats 8000000 in
set_option maxRecDepth 20000 in
theorem zA {w:a6}{k:Int}{nb:Nat}(hx:Zi w sa Aa na ca x)(la:na≤1048576)(hy:Zi w sb Ab nb cb y)(lb:nb≤1048576)(hf64:f<18446744073709551616)(hl:Rd w C m c fs)(hm:m≤1048576)(hbs:∀b,b∈bs→b<256)(hlen:bs.length≤1048576)(hS:Signs w):
    aO aF 111 #[.agg #[.int .i64 k,.bool sa,.slice Aa na ca,.bool sb,.slice Ab nb cb,.int .u64 f,.slice C m c,.string (a8 bs),.int .i64 nn]] w (Gv w (Is (.bool true))):=by
 refine bK Tryz.func111 rfl (n:=125) rfl (bq rfl) (args:= [.agg #[.int .i64 k,.bool sa,.slice Aa na ca,.bool sb,.slice Ab nb cb,.int .u64 f,.slice C m c,.string (a8 bs),.int .i64 nn]]) (bE [(0,.agg #[.int .i64 k,.bool sa,.slice Aa na ca,.bool sb,.slice Ab nb cb,.int .u64 f,.slice C m c,.string (a8 bs),.int .i64 nn])] ⟨rfl,trivial⟩ (sr (bx [.int .i64 k,.bool sa,.slice Aa na ca,.bool sb,.slice Ab nb cb,.int .u64 f,.slice C m c,.string (a8 bs),.int .i64 nn] (Ext.refl w) rfl rfl rfl fun g1 v2 hb4 ge5 e3 hw1=>(mv 1 rfl (a0 (sr (pf g1 5 rfl (aS rfl rfl (aY (fun _=>by kernel_rfl) hb4 rfl) (pu (v:= .float .f64 f) rfl (mv 1 rfl (a0 (aA (aA ?_)))))))))))))
 refine a7 (pf g1 0 rfl (aS rfl rfl (aY (fun _=>by kernel_rfl) hb4 rfl) (a0 (bG (aA ?_)))))
 by_cases hk3:k=3
 · 
  obtain⟨zr,er,hlz,hbo⟩:=DX hf64
  refine a7 (aB rfl rfl rfl true (gD hk3) (mv 1 rfl (a0 (aP rfl (sr (pf g1 5 rfl (aS rfl rfl (aY (fun _=>by kernel_rfl) hb4 rfl) (dD rfl rfl (vs:= [.int .u64 f]) (by kernel_rfl) (by decide) (hbo (w:=v2)).1 ?_))))))))
  rintro _ v6 ⟨xr8,rfl,r8,e7⟩
  refine dE ?_
  have hw2:=hw1.trans e7
  obtain⟨_,_,rfl,⟨s10,A10,n10,c10,rfl,z10⟩,rfl⟩:=r8
  refine mv 1 rfl (pu (v:= .agg #[.bool s10,.slice A10 n10 c10]) rfl (pu (v:= .int .i64 er) rfl (kW [F0,S0] hw2 (hb4.ext e7).lt (fun _=>by kernel_rfl) rfl fun g11 v12 hb14 ge15 q16 e13 hw3=>(so bO hb14 [.bool s10,.slice A10 n10 c10] hw3 ge15 rfl rfl rfl rfl fun v17 hb19 u20 hw4=>(mv 1 rfl (a0 (sr (mv 1 rfl (dD rfl rfl (vs:= [.float .f64 f]) (by kernel_rfl) (by decide) (hbo (w:=v17)).2 ?_)))))))))
  rintro _ v22 ⟨xr24,rfl,r24,e23⟩
  refine dE ?_
  have hw5:=hw4.trans e23
  obtain⟨_,_,rfl,⟨s26,A26,n26,c26,rfl,z26⟩,rfl⟩:=r24
  refine mv 1 rfl (pu (v:= .agg #[.bool s26,.slice A26 n26 c26]) rfl (pu (v:= .int .i64 er) rfl (kW [F0,S0] hw5 (hb19.ext e23).lt (fun _=>by kernel_rfl) rfl fun g27 v28 hb30 ge31 q32 e29 hw6=>(so bO hb30 [.bool s26,.slice A26 n26 c26] hw6 ge31 rfl rfl rfl rfl fun v33 hb35 u36 hw7=>(mv 1 rfl (a0 (sr (lo bO hb35 [.bool s26,.slice A26 n26 c26] rfl rfl rfl (lo bO ((hb19.ext (e23.trans e29)).updN u36 (by omega)) [.bool s10,.slice A10 n10 c10] rfl rfl rfl (cl (vs:= [.agg #[.bool s26,.slice A26 n26 c26],.agg #[.bool s10,.slice A10 n10 c10]]) hw7 (pG ((z26.ext e29).updT hb30 u36) (z26.le (bQ hlz rfl)) ((((z10.ext e13).updT hb14 u20).ext (e23.trans e29)).updT hb30 u36) (z10.le (bQ hlz rfl))) rfl (by kernel_rfl) fun xr40 v38 r40 e39 hw8=>?_))))))))))
  obtain rfl:=r40
  refine mv 3 rfl (aB rfl rfl rfl true (gD rfl) (pu (v:= .bool true) rfl (mv 1 rfl (a0 (aM (eC (bL (aL [.bool true] rfl ⟨rfl,trivial⟩ ?_))))))))
  exact⟨_,rfl,rfl,hw8⟩
 · 
  refine a7 (aB rfl rfl rfl false (jH hk3) (mv 1 rfl (a0 (aI rfl (aA ?_)))))
  by_cases hk4:k=4
  · 
   obtain⟨zr,kr,er,hlz,hbo⟩:=MX hf64
   refine a7 (aB rfl rfl rfl true (gD hk4) (mv 1 rfl (a0 (aP rfl (sr (pf g1 5 rfl (aS rfl rfl (aY (fun _=>by kernel_rfl) hb4 rfl) (dD rfl rfl (vs:= [.int .u64 f]) (by kernel_rfl) (by decide) (hbo (w:=v2)).1 ?_))))))))
   rintro _ v41 ⟨xr43,rfl,r43,e42⟩
   refine dE ?_
   have hw2:=hw1.trans e42
   obtain⟨_,_,_,rfl,⟨s45,A45,n45,c45,rfl,z45⟩,rfl,rfl⟩:=r43
   refine mv 1 rfl (pu (v:= .agg #[.bool s45,.slice A45 n45 c45]) rfl (pu (v:= .int .i64 kr) rfl (pu (v:= .int .i64 er) rfl (kW [F0,S0] hw2 (hb4.ext e42).lt (fun _=>by kernel_rfl) rfl fun g46 v47 hb49 ge50 q51 e48 hw3=>(so bO hb49 [.bool s45,.slice A45 n45 c45] hw3 ge50 rfl rfl rfl rfl fun v52 hb54 u55 hw4=>(mv 2 rfl (a0 (sr (mv 1 rfl (dD rfl rfl (vs:= [.float .f64 f]) (by kernel_rfl) (by decide) (hbo (w:=v52)).2 ?_))))))))))
   rintro _ v57 ⟨xr59,rfl,r59,e58⟩
   refine dE ?_
   have hw5:=hw4.trans e58
   obtain⟨_,_,_,rfl,⟨s61,A61,n61,c61,rfl,z61⟩,rfl,rfl⟩:=r59
   refine mv 1 rfl (pu (v:= .agg #[.bool s61,.slice A61 n61 c61]) rfl (pu (v:= .int .i64 kr) rfl (pu (v:= .int .i64 er) rfl (kW [F0,S0] hw5 (hb54.ext e58).lt (fun _=>by kernel_rfl) rfl fun g62 v63 hb65 ge66 q67 e64 hw6=>(so bO hb65 [.bool s61,.slice A61 n61 c61] hw6 ge66 rfl rfl rfl rfl fun v68 hb70 u71 hw7=>(mv 2 rfl (a0 (sr (lo bO hb70 [.bool s61,.slice A61 n61 c61] rfl rfl rfl (lo bO ((hb54.ext (e58.trans e64)).updN u71 (by omega)) [.bool s45,.slice A45 n45 c45] rfl rfl rfl (cl (vs:= [.agg #[.bool s61,.slice A61 n61 c61],.agg #[.bool s45,.slice A45 n45 c45]]) hw7 (pG ((z61.ext e64).updT hb65 u71) (z61.le (bQ hlz rfl)) ((((z45.ext e48).updT hb49 u55).ext (e58.trans e64)).updT hb65 u71) (z45.le (bQ hlz rfl))) rfl (by kernel_rfl) fun xr75 v73 r75 bM hw8=>?_)))))))))))
   obtain rfl:=r75
   refine mv 3 rfl (aB rfl rfl rfl true (gD rfl) (pu (v:= .bool true) rfl (mv 3 rfl (aB rfl rfl rfl true (gD rfl) (pu (v:= .bool true) rfl (mv 1 rfl (a0 (aM (eC (bL (aL [.bool true] rfl ⟨rfl,trivial⟩ ?_)))))))))))
   exact⟨_,rfl,rfl,hw8⟩
  · 
   refine a7 (aB rfl rfl rfl false (jH hk4) (mv 1 rfl (a0 (aI rfl (aA ?_)))))
   by_cases hk5:k=5
   · 
    obtain⟨cr,er,hbo⟩:=a1i (x:=x) hf64
    refine a7 (aB rfl rfl rfl true (gD hk5) (mv 1 rfl (a0 (aP rfl (sr (pf g1 1 rfl (lo bO hb4 [.bool sa,.slice Aa na ca] rfl rfl rfl (pf g1 5 rfl (aS rfl rfl (aY (fun _=>by kernel_rfl) hb4 rfl) (dD rfl rfl (vs:= [.agg #[.bool sa,.slice Aa na ca],.int .u64 f]) (by kernel_rfl) (by decide) (hbo (hx.ext hw1) (bQ la rfl)).1 ?_))))))))))
    rintro _ v76 ⟨xr78,rfl,r78,e77⟩
    refine dE ?_
    have hw2:=hw1.trans e77
    obtain⟨_,_,rfl,rfl,rfl⟩:=r78
    refine mv 1 rfl (pu (v:= .int .i64 cr) rfl (pu (v:= .int .i64 er) rfl (mv 2 rfl (a0 (sr (pf g1 1 rfl (lo bO (hb4.ext e77) [.bool sa,.slice Aa na ca] rfl rfl rfl (mv 1 rfl (dD rfl rfl (vs:= [.agg #[.bool sa,.slice Aa na ca],.float .f64 f]) (by kernel_rfl) (by decide) (hbo (hx.ext hw2) (bQ la rfl)).2 ?_)))))))))
    rintro _ v80 ⟨xr82,rfl,r82,e81⟩
    refine dE ?_
    have hw3:=hw2.trans e81
    obtain⟨_,_,rfl,rfl,rfl⟩:=r82
    refine mv 1 rfl (pu (v:= .int .i64 cr) rfl (pu (v:= .int .i64 er) rfl (mv 2 rfl (a0 (sr (mv 2 rfl (aB rfl rfl rfl true (gD rfl) (mv 3 rfl (aB rfl rfl rfl true (gD rfl) (pu (v:= .bool true) rfl (mv 1 rfl (a0 (aM ?_)))))))))))))
    refine eC (bL (aL [.bool true] rfl ⟨rfl,trivial⟩ ?_))
    exact⟨_,rfl,rfl,hw3⟩
   · 
    refine a7 (aB rfl rfl rfl false (jH hk5) (mv 1 rfl (a0 (aI rfl (aN (cA (aD (aA ?_))))))))
    obtain⟨ss,er,hss,hbo⟩:=a1g (x:=x) (n:=nn)
    refine a7 (pf g1 1 rfl (lo bO hb4 [.bool sa,.slice Aa na ca] rfl rfl rfl (pf g1 8 rfl (aS rfl rfl (aY (fun _=>by kernel_rfl) hb4 rfl) (dD rfl rfl (vs:= [.agg #[.bool sa,.slice Aa na ca],.int .i64 nn]) (by kernel_rfl) (by decide) (hbo (hx.ext hw1) (bQ la rfl) (hS.ext hw1)).1 ?_)))))
    rintro _ v84 ⟨xr86,rfl,r86,e85⟩
    refine dE ?_
    have hw2:=hw1.trans e85
    obtain⟨_,_,rfl,rfl,rfl⟩:=r86
    refine mv 1 rfl (pu (v:= .string (a8 ss)) rfl (pu (v:= .int .i64 er) rfl (mv 2 rfl (a0 (sr (pf g1 1 rfl (lo bO (hb4.ext e85) [.bool sa,.slice Aa na ca] rfl rfl rfl (pf g1 8 rfl (aS rfl rfl (aY (fun _=>by kernel_rfl) (hb4.ext e85) rfl) (dD rfl rfl (vs:= [.agg #[.bool sa,.slice Aa na ca],.int .i64 nn]) (by kernel_rfl) (by decide) (hbo (hx.ext hw2) (bQ la rfl) (hS.ext hw2)).2 ?_))))))))))
    rintro _ v88 ⟨xr90,rfl,r90,e89⟩
    refine dE ?_
    have hw3:=hw2.trans e89
    obtain⟨_,_,rfl,rfl,rfl⟩:=r90
    refine mv 1 rfl (pu (v:= .string (a8 ss)) rfl (pu (v:= .int .i64 er) rfl (mv 2 rfl (a0 (sr (mv 2 rfl (fV (a:=ss) (b:=ss) rfl rfl rfl hss true (nU (rfl)) (mv 3 rfl (aB rfl rfl rfl true (gD rfl) (pu (v:= .bool true) rfl (mv 1 rfl (a0 (aM ?_)))))) (hb:=hss))))))))
    refine aL [.bool true] rfl ⟨rfl,trivial⟩ ?_
    exact⟨_,rfl,rfl,hw3⟩
set_option maxHeartbeats 8000000 in
set_option maxRecDepth 20000 in
theorem L5 {w:a6}{k:Int}{nb:Nat}(hx:Zi w sa Aa na ca x)(la:na≤1048576)(hy:Zi w sb Ab nb cb y)(lb:nb≤1048576)(hf64:f<18446744073709551616)(hl:Rd w C m c fs)(hm:m≤1048576)(hbs:∀b,b∈bs→b<256)(hlen:bs.length≤1048576)(hS:Signs w):
    aO aF 30 #[.agg #[.int .i64 k,.bool sa,.slice Aa na ca,.bool sb,.slice Ab nb cb,.int .u64 f,.slice C m c,.string (a8 bs),.int .i64 nn]] w (Gv w (Is (.bool true))):=by
 refine bK Tryz.func30 rfl (n:=19) rfl (bq rfl) (args:= [.agg #[.int .i64 k,.bool sa,.slice Aa na ca,.bool sb,.slice Ab nb cb,.int .u64 f,.slice C m c,.string (a8 bs),.int .i64 nn]]) (bE [(0,.agg #[.int .i64 k,.bool sa,.slice Aa na ca,.bool sb,.slice Ab nb cb,.int .u64 f,.slice C m c,.string (a8 bs),.int .i64 nn])] ⟨rfl,trivial⟩ (sr (bx [.int .i64 k,.bool sa,.slice Aa na ca,.bool sb,.slice Ab nb cb,.int .u64 f,.slice C m c,.string (a8 bs),.int .i64 nn] (Ext.refl w) rfl rfl rfl fun g1 v2 hb4 ge5 e3 hw1=>(mv 1 rfl (a0 (aA (sr (pf g1 0 rfl (aS rfl rfl (aY (fun _=>by kernel_rfl) hb4 rfl) (a0 (bG (aA (aA ?_)))))))))))))
 by_cases hk1:k=1
 · 
  refine a7 (aB rfl rfl rfl true (gD hk1) (mv 1 rfl (a0 (aP rfl (aN (aD (aP rfl (sr (lo kE hb4 [.int .i64 k,.bool sa,.slice Aa na ca,.bool sb,.slice Ab nb cb,.int .u64 f,.slice C m c,.string (a8 bs),.int .i64 nn] rfl rfl rfl (cl (vs:= [.agg #[.int .i64 k,.bool sa,.slice Aa na ca,.bool sb,.slice Ab nb cb,.int .u64 f,.slice C m c,.string (a8 bs),.int .i64 nn]]) hw1 (yX (hx.ext hw1) la (hy.ext hw1) lb hf64 (hl.ext hw1) hm hbs hlen) rfl (by kernel_rfl) fun xr8 v6 r8 e7 hw2=>?_))))))))))
  obtain rfl:=r8
  refine mv 1 rfl (a0 (aM (eC (bL (aL [.bool true] rfl ⟨rfl,trivial⟩ ?_)))))
  exact⟨_,rfl,rfl,hw2⟩
 · 
  refine a7 (aB rfl rfl rfl false (jH hk1) (mv 1 rfl (a0 (aI rfl (aA ?_)))))
  by_cases hk2:k=2
  · 
   refine a7 (aB rfl rfl rfl true (gD hk2) (mv 1 rfl (a0 (aP rfl (aN (aD (aP rfl (sr (lo kE hb4 [.int .i64 k,.bool sa,.slice Aa na ca,.bool sb,.slice Ab nb cb,.int .u64 f,.slice C m c,.string (a8 bs),.int .i64 nn] rfl rfl rfl (cl (vs:= [.agg #[.int .i64 k,.bool sa,.slice Aa na ca,.bool sb,.slice Ab nb cb,.int .u64 f,.slice C m c,.string (a8 bs),.int .i64 nn]]) hw1 (yX (hx.ext hw1) la (hy.ext hw1) lb hf64 (hl.ext hw1) hm hbs hlen) rfl (by kernel_rfl) fun xr11 v9 r11 e10 hw2=>?_))))))))))
   obtain rfl:=r11
   refine mv 1 rfl (a0 (aM (eC (bL (aL [.bool true] rfl ⟨rfl,trivial⟩ ?_)))))
   exact⟨_,rfl,rfl,hw2⟩
  · 
   refine a7 (aB rfl rfl rfl false (jH hk2) (mv 1 rfl (a0 (aI rfl (aA ?_)))))
   by_cases hk7:k=7
   · 
    refine a7 (aB rfl rfl rfl true (gD hk7) (mv 1 rfl (a0 (aP rfl (aN (aD (aP rfl (sr (lo kE hb4 [.int .i64 k,.bool sa,.slice Aa na ca,.bool sb,.slice Ab nb cb,.int .u64 f,.slice C m c,.string (a8 bs),.int .i64 nn] rfl rfl rfl (cl (vs:= [.agg #[.int .i64 k,.bool sa,.slice Aa na ca,.bool sb,.slice Ab nb cb,.int .u64 f,.slice C m c,.string (a8 bs),.int .i64 nn]]) hw1 (yX (hx.ext hw1) la (hy.ext hw1) lb hf64 (hl.ext hw1) hm hbs hlen) rfl (by kernel_rfl) fun xr14 v12 r14 e13 hw2=>?_))))))))))
    obtain rfl:=r14
    refine mv 1 rfl (a0 (aM (eC (bL (aL [.bool true] rfl ⟨rfl,trivial⟩ ?_)))))
    exact⟨_,rfl,rfl,hw2⟩
   · 
    refine a7 (aB rfl rfl rfl false (jH hk7) (mv 1 rfl (a0 (aI rfl ?_))))
    by_cases hk8:k=8
    · 
     refine a7 (aB rfl rfl rfl true (gD hk8) (mv 1 rfl (a0 (aP rfl (sr (lo kE hb4 [.int .i64 k,.bool sa,.slice Aa na ca,.bool sb,.slice Ab nb cb,.int .u64 f,.slice C m c,.string (a8 bs),.int .i64 nn] rfl rfl rfl (cl (vs:= [.agg #[.int .i64 k,.bool sa,.slice Aa na ca,.bool sb,.slice Ab nb cb,.int .u64 f,.slice C m c,.string (a8 bs),.int .i64 nn]]) hw1 (yX (hx.ext hw1) la (hy.ext hw1) lb hf64 (hl.ext hw1) hm hbs hlen) rfl (by kernel_rfl) fun xr17 v15 r17 e16 hw2=>?_)))))))
     obtain rfl:=r17
     refine mv 1 rfl (a0 (aM (eC (bL (aL [.bool true] rfl ⟨rfl,trivial⟩ ?_)))))
     exact⟨_,rfl,rfl,hw2⟩
    · 
     refine a7 (aB rfl rfl rfl false (jH hk8) (mv 1 rfl (a0 (aI rfl (aA (aA ?_))))))
     by_cases hk3:k=3
     · 
      refine a7 (aB rfl rfl rfl true (gD hk3) (mv 1 rfl (a0 (aP rfl (aN (aD (aP rfl (sr (lo kE hb4 [.int .i64 k,.bool sa,.slice Aa na ca,.bool sb,.slice Ab nb cb,.int .u64 f,.slice C m c,.string (a8 bs),.int .i64 nn] rfl rfl rfl (cl (vs:= [.agg #[.int .i64 k,.bool sa,.slice Aa na ca,.bool sb,.slice Ab nb cb,.int .u64 f,.slice C m c,.string (a8 bs),.int .i64 nn]]) hw1 (zA (hx.ext hw1) la (hy.ext hw1) lb hf64 (hl.ext hw1) hm hbs hlen (hS.ext hw1)) rfl (by kernel_rfl) fun xr20 v18 r20 e19 hw2=>?_))))))))))
      obtain rfl:=r20
      refine mv 1 rfl (a0 (aM (eC (bL (aL [.bool true] rfl ⟨rfl,trivial⟩ ?_)))))
      exact⟨_,rfl,rfl,hw2⟩
     · 
      refine a7 (aB rfl rfl rfl false (jH hk3) (mv 1 rfl (a0 (aI rfl (aA ?_)))))
      by_cases hk4:k=4
      · 
       refine a7 (aB rfl rfl rfl true (gD hk4) (mv 1 rfl (a0 (aP rfl (aN (aD (aP rfl (sr (lo kE hb4 [.int .i64 k,.bool sa,.slice Aa na ca,.bool sb,.slice Ab nb cb,.int .u64 f,.slice C m c,.string (a8 bs),.int .i64 nn] rfl rfl rfl (cl (vs:= [.agg #[.int .i64 k,.bool sa,.slice Aa na ca,.bool sb,.slice Ab nb cb,.int .u64 f,.slice C m c,.string (a8 bs),.int .i64 nn]]) hw1 (zA (hx.ext hw1) la (hy.ext hw1) lb hf64 (hl.ext hw1) hm hbs hlen (hS.ext hw1)) rfl (by kernel_rfl) fun xr23 v21 r23 e22 hw2=>?_))))))))))
       obtain rfl:=r23
       refine mv 1 rfl (a0 (aM (eC (bL (aL [.bool true] rfl ⟨rfl,trivial⟩ ?_)))))
       exact⟨_,rfl,rfl,hw2⟩
      · 
       refine a7 (aB rfl rfl rfl false (jH hk4) (mv 1 rfl (a0 (aI rfl (aA ?_)))))
       by_cases hk5:k=5
       · 
        refine a7 (aB rfl rfl rfl true (gD hk5) (mv 1 rfl (a0 (aP rfl (aN (aD (aP rfl (sr (lo kE hb4 [.int .i64 k,.bool sa,.slice Aa na ca,.bool sb,.slice Ab nb cb,.int .u64 f,.slice C m c,.string (a8 bs),.int .i64 nn] rfl rfl rfl (cl (vs:= [.agg #[.int .i64 k,.bool sa,.slice Aa na ca,.bool sb,.slice Ab nb cb,.int .u64 f,.slice C m c,.string (a8 bs),.int .i64 nn]]) hw1 (zA (hx.ext hw1) la (hy.ext hw1) lb hf64 (hl.ext hw1) hm hbs hlen (hS.ext hw1)) rfl (by kernel_rfl) fun xr26 v24 r26 e25 hw2=>?_))))))))))
        obtain rfl:=r26
        refine mv 1 rfl (a0 (aM (eC (bL (aL [.bool true] rfl ⟨rfl,trivial⟩ ?_)))))
        exact⟨_,rfl,rfl,hw2⟩
       · 
        refine a7 (aB rfl rfl rfl false (jH hk5) (mv 1 rfl (a0 (aI rfl ?_))))
        by_cases hk6:k=6
        · 
         refine a7 (aB rfl rfl rfl true (gD hk6) (mv 1 rfl (a0 (aP rfl (sr (lo kE hb4 [.int .i64 k,.bool sa,.slice Aa na ca,.bool sb,.slice Ab nb cb,.int .u64 f,.slice C m c,.string (a8 bs),.int .i64 nn] rfl rfl rfl (cl (vs:= [.agg #[.int .i64 k,.bool sa,.slice Aa na ca,.bool sb,.slice Ab nb cb,.int .u64 f,.slice C m c,.string (a8 bs),.int .i64 nn]]) hw1 (zA (hx.ext hw1) la (hy.ext hw1) lb hf64 (hl.ext hw1) hm hbs hlen (hS.ext hw1)) rfl (by kernel_rfl) fun xr29 v27 r29 e28 hw2=>?_)))))))
         obtain rfl:=r29
         refine mv 1 rfl (a0 (aM (eC (bL (aL [.bool true] rfl ⟨rfl,trivial⟩ ?_)))))
         exact⟨_,rfl,rfl,hw2⟩
        · 
         refine a7 (aB rfl rfl rfl false (jH hk6) (mv 1 rfl (a0 (aI rfl (aN (cA (aD (sr (mv 1 rfl (a0 (aM (aL [.bool true] rfl ⟨rfl,trivial⟩ ?_))))))))))))
         exact⟨_,rfl,rfl,hw1⟩
structure UpU (lb:Nat)(w w':a6):Prop where
 os:w'.os=w.os
 tape:w'.tape=w.tape
 output:w'.output=w.output
 size:w.heap.size≤w'.heap.size
 low:∀k,k<lb→k<w.heap.size→w'.heap[k]?=w.heap[k]?
 typ:∀(k:Nat) (cs:Array aH) (t:aT) (fr:Nat×Nat),w.heap[k]?=some (.cells cs t fr)→t≠65→w'.heap[k]?=some (.cells cs t fr)
section
variable {lb:Nat}{a b c w w':a6}
theorem UpU.refl (lb:Nat)(w:a6):UpU lb w w:=⟨rfl,rfl,rfl,b8 _,fun _ _ _=>rfl,fun _ _ _ _ h _=>h⟩
theorem UpU.trans (h:UpU lb a b)(e:UpU lb b c):UpU lb a c:=
 ⟨e.os.trans h.os,e.tape.trans h.tape,e.output.trans h.output,aG h.size e.size,fun k hk hs=>(e.low k hk (dF hs h.size)).trans (h.low k hk hs),fun k cs t fr ho h1=>e.typ k cs t fr (h.typ k cs t fr ho h1) h1⟩
theorem UpU.of_ext (lb:Nat)(e:Ext w w'):UpU lb w w':=⟨e.below.os,e.below.tape,e.below.output,e.size,fun k _ hs=>e.below.block k hs,fun _ _ _ _ ho _=>e.heap ho⟩
theorem UpU.then_ext (h:UpU lb a b)(e:Ext b c):UpU lb a c:=h.trans (UpU.of_ext lb e)
theorem UpU.ext (h:UpU lb w w')(e:Ext a w)(hl:a.heap.size≤lb):Ext a w':=
 ⟨⟨h.os.trans e.below.os,h.tape.trans e.below.tape,h.output.trans e.below.output,aG e.size h.size,fun k hk=>(h.low k (dF hk hl) (dF hk e.size)).trans (e.below.block k hk)⟩⟩
theorem UpU.bk (h:UpU lb w w')(hb:Bk w g t vs)(h1:t≠65):Bk w' g t vs:=h.typ g _ _ _ hb h1
theorem UpU.own {s:Nat}(h:UpU lb w w')(ho:Own w base t s A n cap vs)(h1:t≠65):Own w' base t s A n cap vs:=by
 rcases ho with ho | ⟨g,cs,ha,hb,hk,r⟩
 ·exact cE ho
 ·exact bR ⟨g,cs,ha,hb,h.bk hk h1,r⟩
theorem UpU.ofO {s:Nat}(ho:Own w lb 65 s A n cap vs)(u:UpdO A w w'):UpU lb w w':=by
 refine⟨u.by_.os,u.by_.tape,u.by_.output,u.size,fun k hk hs=>?_,fun k cs t fr h1 h2=>?_⟩
 ·refine u.by_.block k hs fun e=>?_
  cases A with
  | none=>cases e
  | some p=>
   have e':k=p.block:=l4 e
   have:=(ho.block p rfl).1
   omega
 ·refine u.heap h1 fun p hp e=>h2 ?_
  rcases ho with⟨h,_⟩ | ⟨g,cs',ha,_,hk,_⟩
  ·rw [h] at hp;cases hp
  ·rw [ha] at hp;cases hp
   simp only at e
   subst e
   unfold Bk at hk
   rw [hk] at h1
   injection h1 with h1
   injection h1 with _ h1
   exact h1.symm
end
theorem SX {ty e:aT}{z:aH}{s bytes:Nat}(ht:P.underlying t=some (.slice e))(hinfo:(P.info? e).map (fun i=>(i.zero,i.size,i.bytes))=some (some z,s,bytes))(hzs:z.cells.size=s)(hsz:0<s)(hby:bytes≤64){w:a6}{xs:List aH}(hown:Own w base e s A n cap xs)(hb:base≤w.heap.size){a:aC}(hl:news.length=m*s)(hnews:∀j u,news[j]?=some u→w.cell? (a.add j)=some u)(h1:news.all (·.oneCell')=true)(hm:n+m≤1099511627776):
  ∃A' cap' w',(rC #[t,t] ty #[.slice A n cap,.slice (some a) m c]).run P w= .ok (.slice A' (n+m) cap') w'∧Own w' base e s A' (n+m) cap' (xs++news)∧
   ((A'=A∧cap'=cap∧UpdO A w w')∨(Ext w w'∧∀a',A'=some a'→w.heap.size≤a'.block)):=by
 obtain⟨i,hi,hz,hz1,hz2⟩:=info_parts hinfo
 have h1':∀u∈news,u.oneCell'=true:=by simpa [List.all_eq_true] using h1
 have h63:n+m≤maxLen:=by rw [eY];omega
 have hbytes:(n+m)*bytes≤140737488355328:=by
  have:(n+m)*bytes≤1099511627776*64:=Nat.mul_le_mul hm hby
  omega
 rcases hown with⟨rfl,rfl,rfl,rfl⟩ | ⟨g,cs,rfl,hg,hk,hn,hcm,hcl,hv⟩
 ·obtain⟨v',w',hr,h2,h3,_⟩:=run_append_own (P:=P) w w.heap.size t ty e i z s bytes ht hi hz hz1 hz2 hzs hsz (.slice none 0 0) 0 [] (World.ownsRow_nil w _ e s) a m c news hl hnews h1' h63 hbytes (b8 _)
  obtain⟨A',cap',rfl,ho⟩:=Own.of_row h2
  exact⟨A',cap',w',hr,ho.mono hb,bR ⟨Ext.of_grown h3,fun a' ha=>(ho.block a' ha).1⟩⟩
 ·by_cases hroom:n+m≤cap
  ·have hfit:n*s+news.length≤cs.length:=by rw [hl,hcl,←dX];exact eA s hroom
   obtain⟨w',hst,hb2,hu,hs⟩:=xK (P:=P) news 0 (n*s) w cs hk (by omega) h1'
   rw [dN] at hb2
   have hfc:=run_firstCells_some (P:=P) w i.size m a m c news (by rw [hz1];exact hl) hnews
   rw [hz1] at hfc
   refine⟨some ⟨g,0,none⟩,cap,w',?_,bR ⟨g,_,rfl,hg,hb2,hroom,hcm,?_,?_⟩,cE ⟨rfl,rfl,hu.updO⟩⟩
   ·simp [rC,run_underlying ht,sizeOf,typeInfo,hi,Builtin.lenOf,hroom,hfc,Addr.add_lit,hz1,hst]
   ·unfold m8
    simp only [cL,bJ,cV]
    omega
   ·rw [dX,←hl]
    exact J7 hv (by omega)
  ·obtain⟨v',w',hr,h2,h3⟩:=run_append_arg_grows (P:=P) w t ty e i z s bytes ht hi hz hz1 hz2 hzs hsz ⟨g,0,none⟩ n cap xs
    (by rw [←hv,bJ];have:=eA s hn;omega)
    (fun j u hj=>by
     have hjl:=(List.getElem?_eq_some_iff.1 hj).1
     rw [kX,Nat.zero_add,hk.cell (by rw [←hv,bJ] at hjl;omega)]
     rw [←hv,List.getElem?_take] at hj
     split at hj
     ·rw [bC,hj];rfl
     ·cases hj) a m c news hl hnews (by omega) h63 hbytes
   obtain⟨A',cap',rfl,ho⟩:=Own.of_row h2
   exact⟨A',cap',w',hr,ho.mono hb,bR ⟨Ext.of_grown h3,fun a' ha=>(ho.block a' ha).1⟩⟩
structure Lst where
 A:Option aC
 n:Nat
 c:Nat
def Lst.v (x:Lst):aH:= .slice x.A x.n x.c
def Lst.z:Lst:=⟨none,0,0⟩
def jK (i j:Nat):Nat:=4323455642275676160+i*1048576+j
def gA (i n:Nat):List Nat:=(List.range n).map (jK i)
theorem CP (i n:Nat):(gA i n).length=n:=by unfold gA;rw [List.length_map,List.length_range]
theorem CQ (h:j<n):(gA i n).getD j 0=jK i j:=by unfold gA;simp [bC,h]
theorem X4 (h:k≤n):(gA i n).take k=gA i k:=by
 unfold gA;rw [←List.map_take,List.take_range,Nat.min_eq_left h]
theorem X5 (i n:Nat):gA i (n+1)=gA i n++ [jK i n]:=by unfold gA;rw [List.range_succ,List.map_append];rfl
structure Al1 (w:a6)(lb:Nat)(ls:List Lst)(i j:Nat):Prop where
 dis:∀a b,a<ls.length→b<ls.length→a≠b→∀p q,(ls.getD a Lst.z).A=some p→(ls.getD b Lst.z).A=some q→p.block≠q.block
 own:∀a,a<ls.length→∃xs:List Nat,Own w lb 65 1 (ls.getD a Lst.z).A (ls.getD a Lst.z).n (ls.getD a Lst.z).c (xs.map aW)∧(a<i→xs=gA a (ls.getD a Lst.z).n)∧(a=i→xs.take j=(gA a (ls.getD a Lst.z).n).take j)
section
variable {w w':a6}{lb i j:Nat}{ls:List Lst}
theorem Al1.ext (h:Al1 w lb ls i j)(e:Ext w w'):Al1 w' lb ls i j:=⟨h.dis,fun a ha=>by
 obtain⟨xs,h1,h2⟩:=h.own a ha
 exact⟨xs,h1.ext e,h2⟩⟩
theorem Al1.next (h:Al1 w lb ls i j)(hj:(ls.getD i Lst.z).n≤j):Al1 w lb ls (i+1) 0:=⟨h.dis,fun a ha=>by
 obtain⟨xs,h1,h2,h3⟩:=h.own a ha
 refine⟨xs,h1,fun hlt=>?_,fun _=>rfl⟩
 by_cases e:a=i
 ·subst e
  have h4:=h3 rfl
  have hl:=qJ h1
  rwa [List.take_of_length_le (by omega),List.take_of_length_le (by rw [CP];exact hj)] at h4
 ·exact h2 (by omega)⟩
theorem Al1.addr (h:Al1 w lb ls i j)(hi:i<ls.length)(hk:k<(ls.getD i Lst.z).n):∃p,(ls.getD i Lst.z).A.map (·.add (k*1))=some p:=by
 obtain⟨xs,h1,_⟩:=h.own i hi
 obtain⟨p,hp,_⟩:=h1.at1 hk
 exact⟨p,hp⟩
theorem Al1.set (h:Al1 w lb ls i j)(hi:i<ls.length)(hj:j<(ls.getD i Lst.z).n)(hT:∀w,(sizeOf T').run P w= .ok 1 w){p:aC}(hp:(ls.getD i Lst.z).A.map (·.add (j*1))=some p):
  ∃w',(storeVar T' p (aW (jK i j))).run P w= .ok () w'∧Al1 w' lb ls i (j+1)∧UpU lb w w':=by
 obtain⟨xs,h1,h2,h3⟩:=h.own i hi
 obtain⟨w',hr,h4,h5⟩:=J6 (P:=P) (T':=T') (f:=aW) (u:=jK i j) h1 hj rfl rfl hT hp
 refine⟨w',hr,⟨h.dis,fun a ha=>?_⟩,UpU.ofO h1 h5⟩
 by_cases e:a=i
 ·subst e
  refine⟨_,h4,fun h=>absurd h (Nat.lt_irrefl _),fun _=>?_⟩
  have h6:=h3 rfl
  have hl:=qJ h1
  rw [List.take_add_one,List.take_add_one,List.take_set_of_le (b8 _),h6]
  congr 1
  rw [List.getElem?_set_self (by omega)]
  have:=CQ (i:=a) hj
  rw [bC,cJ (by rw [CP];exact hj),Option.getD_some] at this
  rw [cJ (by rw [CP];exact hj),this]
 ·obtain⟨ys,g1,g2,g3⟩:=h.own a ha
  exact⟨ys,g1.updO h5 (fun p q hp hq=>h.dis i a hi ha (fun e'=>e e'.symm) p q hp hq),g2,fun e'=>absurd e' e⟩
end
structure Gr (w:a6)(lb:Nat)(x g:Lst)(i:Nat):Prop where
 ox:Own w lb 65 1 x.A x.n x.c ((gA i x.n).map aW)
 og:Own w lb 65 1 g.A g.n g.c ((gA i g.n).map aW)
 le:x.n≤g.n
 rel:(g.A=x.A∧g.c=x.c)∨(∀p q,x.A=some p→g.A=some q→p.block≠q.block)
def vT (x g:Lst)(k:Nat):Prop:=∃p,(x.A=some p∨g.A=some p)∧p.block=k
structure Al2 (w:a6)(lb:Nat)(ls gs:List Lst):Prop where
 len:gs.length=ls.length
 dis:∀a b,a<ls.length→b<ls.length→a≠b→∀k,vT (ls.getD a Lst.z) (gs.getD a Lst.z) k→¬vT (ls.getD b Lst.z) (gs.getD b Lst.z) k
 gr:∀a,a<ls.length→Gr w lb (ls.getD a Lst.z) (gs.getD a Lst.z) a
section
variable {w w':a6}{lb i:Nat}{ls gs:List Lst}
theorem Al2.start (h:Al1 w lb ls ls.length 0):Al2 w lb ls ls:=by
 refine⟨rfl,fun a b ha hb hne k h1 h2=>?_,fun a ha=>?_⟩
 ·obtain⟨p,hp,rfl⟩:=h1
  obtain⟨q,hq,hk⟩:=h2
  exact h.dis a b ha hb hne p q (by rcases hp with hp | hp <;> exact hp) (by rcases hq with hq | hq <;> exact hq) hk.symm
 ·obtain⟨xs,h1,h2,_⟩:=h.own a ha
  rw [h2 ha] at h1
  exact⟨h1,h1,b8 _,cE ⟨rfl,rfl⟩⟩
theorem Gr.ext {x g:Lst}(h:Gr w lb x g i)(e:Ext w w'):Gr w' lb x g i:=⟨h.ox.ext e,h.og.ext e,h.le,h.rel⟩
theorem Al2.ext (h:Al2 w lb ls gs)(e:Ext w w'):Al2 w' lb ls gs:=⟨h.len,h.dis,fun a ha=>(h.gr a ha).ext e⟩
theorem rT {α:Type}{l:List α}{x d:α}(h:i<l.length):(l.set i x).getD i d=x:=by simp [bC,h]
theorem rU {α:Type}{l:List α}{x d:α}(h:j≠i):(l.set i x).getD j d=l.getD j d:=by
 rw [bC,List.getElem?_set_ne (fun e=>h e.symm),←bC]
theorem Al2.app (h:Al2 w lb ls gs)(hi:i<ls.length)(ho:Own w' lb 65 1 A' ((gs.getD i Lst.z).n+1) c' ((gA i ((gs.getD i Lst.z).n+1)).map aW))(hc:(A'=(gs.getD i Lst.z).A∧c'=(gs.getD i Lst.z).c∧UpdO (gs.getD i Lst.z).A w w')∨(Ext w w'∧∀a',A'=some a'→w.heap.size≤a'.block)):Al2 w' lb ls (gs.set i ⟨A',(gs.getD i Lst.z).n+1,c'⟩):=by
 have hig:i<gs.length:=by rw [h.len];exact hi
 have hgi:=h.gr i hi
 rcases hc with⟨rfl,rfl,hu⟩ | ⟨he,hnew⟩
 ·refine⟨by rw [List.length_set];exact h.len,fun a b ha hb hne k h1 h2=>?_,fun a ha=>?_⟩
  ·refine h.dis a b ha hb hne k ?_ ?_
   ·by_cases e:a=i
    ·subst e;rwa [rT hig] at h1
    ·rwa [rU e] at h1
   ·by_cases e:b=i
    ·subst e;rwa [rT hig] at h2
    ·rwa [rU e] at h2
  ·by_cases e:a=i
   ·subst e
    rw [rT hig]
    refine⟨?_,ho,Nat.le_succ_of_le hgi.le,hgi.rel⟩
    rcases hgi.rel with⟨e1,e2⟩ | hd
    ·have h4:=ho.take1 (k:=(ls.getD a Lst.z).n) (Nat.le_succ_of_le hgi.le)
     rw [X4 (Nat.le_succ_of_le hgi.le)] at h4
     rw [←e1,←e2];exact h4
    ·exact hgi.ox.updO hu (fun p q hp hq e=>hd q p hq hp e.symm)
   ·rw [rU e]
    have hga:=h.gr a ha
    refine⟨hga.ox.updO hu (fun p q hp hq e'=>?_),hga.og.updO hu (fun p q hp hq e'=>?_),hga.le,hga.rel⟩
    ·exact h.dis i a hi ha (fun e''=>e e''.symm) p.block ⟨p,bR hp,rfl⟩ ⟨q,cE hq,e'.symm⟩
    ·exact h.dis i a hi ha (fun e''=>e e''.symm) p.block ⟨p,bR hp,rfl⟩ ⟨q,bR hq,e'.symm⟩
 ·have old:∀a,a<ls.length→∀k,vT (ls.getD a Lst.z) (gs.getD a Lst.z) k→k<w.heap.size:=fun a ha k hk=>by
   obtain⟨p,hp,rfl⟩:=hk
   rcases hp with hp | hp
   ·exact ((h.gr a ha).ox.block p hp).2
   ·exact ((h.gr a ha).og.block p hp).2
  have part:∀a,a<ls.length→∀k,vT (ls.getD a Lst.z) ((gs.set i ⟨A',(gs.getD i Lst.z).n+1,c'⟩).getD a Lst.z) k→vT (ls.getD a Lst.z) (gs.getD a Lst.z) k∨(a=i∧w.heap.size≤k):=fun a ha k hk=>by
   by_cases e:a=i
   ·subst e
    rw [rT hig] at hk
    obtain⟨p,hp,rfl⟩:=hk
    rcases hp with hp | hp
    ·exact cE ⟨p,cE hp,rfl⟩
    ·exact bR ⟨rfl,hnew p hp⟩
   ·rw [rU e] at hk;exact cE hk
  refine⟨by rw [List.length_set];exact h.len,fun a b ha hb hne k h1 h2=>?_,fun a ha=>?_⟩
  ·rcases part a ha k h1 with h3 | ⟨e3,h3⟩
   ·rcases part b hb k h2 with h4 | ⟨e4,h4⟩
    ·exact h.dis a b ha hb hne k h3 h4
    ·have:=old a ha k h3;omega
   ·rcases part b hb k h2 with h4 | ⟨e4,h4⟩
    ·have:=old b hb k h4;omega
    ·exact hne (e3.trans e4.symm)
  ·by_cases e:a=i
   ·subst e
    rw [rT hig]
    refine⟨hgi.ox.ext he,ho,Nat.le_succ_of_le hgi.le,bR fun p q hp hq e=>?_⟩
    have:=(hgi.ox.block p hp).2
    have:=hnew q hq
    omega
   ·rw [rU e]
    exact (h.gr a ha).ext he
end
section
variable {Q:Exit→Act→a6→Prop}{N:Nat}{l:Fr}{w:a6}{ops:Array Oper}{rest:List Oper}{d:Nat}{ty:aT}{pos:String}{af:Array Edge}{gd:Option (Nat×Bool)}
theorem P2 {x y:cS}{ls:List Lst}{p:aC}(hw:dI ops l gd=some true)(hx:bZ l x=some (.pointer (some p)))(hy:bZ l y=some (aW (jK i j)))(h:Al1 w lb ls i j)(hi:i<ls.length)(hj:j<(ls.getD i Lst.z).n)(hp:(ls.getD i Lst.z).A.map (·.add (j*1))=some p)(k:∀w',Al1 w' lb ls i (j+1)→UpU lb w w'→wl aF ops Q N rest l w'):wl aF ops Q N (⟨none,.store 65 x y,ty,pos,af,gd⟩::rest) l w:=by
 obtain⟨w',hr,h2,h3⟩:=h.set (P:=aF) (T':=65) hi hj bN hp
 exact wY hw hx hy hr (k w' h2 h3)
theorem P4 {x y:cS}{ls gs:List Lst}(hw:dI ops l gd=some true)(hx:bZ l x=some (.slice (gs.getD i Lst.z).A (gs.getD i Lst.z).n (gs.getD i Lst.z).c))(hy:bZ l y=some (.slice (some ⟨g,0,none⟩) 1 c))(h:Al2 w lb ls gs)(hlb:lb≤w.heap.size)(hi:i<ls.length)(hb:Bk w g 65 [aW (jK i (gs.getD i Lst.z).n)])(hm:(gs.getD i Lst.z).n+1≤1099511627776)(hd:d<N)(k:∀A' c' w',Al2 w' lb ls (gs.set i ⟨A',(gs.getD i Lst.z).n+1,c'⟩)→UpU lb w w'→wl aF ops Q N rest ((d,.slice A' ((gs.getD i Lst.z).n+1) c')::l) w'):
  wl aF ops Q N (⟨some d,.call {callee:= .builtin .append,args:= #[x,y],argTypes:= #[22,22]},ty,pos,af,gd⟩::rest) l w:=by
 have hg:=h.gr i hi
 obtain⟨A',cap',w',hr,h2,h3⟩:=SX (P:=aF) (ty:=ty) bU jE rfl (by decide) (by decide) hg.og hlb (m:=1) (c:=c) (news:= [aW (jK i (gs.getD i Lst.z).n)]) rfl (VT _ hb) rfl hm
 have h4:Own w' lb 65 1 A' ((gs.getD i Lst.z).n+1) cap' ((gA i ((gs.getD i Lst.z).n+1)).map aW):=by rw [X5,List.map_append];exact h2
 have h5:=h.app hi h4 h3
 have h6:UpU lb w w':=by
  rcases h3 with⟨_,_,hu⟩ | ⟨he,_⟩
  ·exact UpU.ofO hg.og hu
  ·exact UpU.of_ext lb he
 refine fJ hw hd (fun a' ha=>?_) (k A' cap' w' h5 h6)
 unfold execOp
 simp only [resolve,invoke,builtin,cK,Sem.run_pure,Result.andThen_ok,List.map_toArray,iN,j7,ha.ev hx,ha.ev hy]
 rw [hr]
 rfl
end
theorem Own.atL {w:a6}{ls:List Lst}(h:Own w lb T 1 A n c (ls.map Lst.v))(hi:i<n):
  ∃p,A.map (·.add (i*1))=some p∧w.cell? p=some (.slice (ls.getD i Lst.z).A (ls.getD i Lst.z).n (ls.getD i Lst.z).c):=by
 have hl:=h.rv.len
 rw [List.length_map,cI] at hl
 obtain⟨a,rfl,hc⟩:=h.rv.get i (by omega)
 refine⟨a.add i,by rw [cI];rfl,?_⟩
 rw [hc]
 simp [bC,List.getElem?_map,cJ (show i<ls.length by omega),Lst.v]
section
variable {w w':a6}{lb i g:Nat}{ls gs:List Lst}{T:aT}{us:List aH}
theorem Gr.updT {x y:Lst}(h:Gr w lb x y i)(hb:Bk w g T us)(hT:65≠T)(u:Upd g w w'):Gr w' lb x y i:=⟨h.ox.updT hb hT u,h.og.updT hb hT u,h.le,h.rel⟩
theorem Al2.updT (h:Al2 w lb ls gs)(hb:Bk w g T us)(hT:65≠T)(u:Upd g w w'):Al2 w' lb ls gs:=⟨h.len,h.dis,fun a ha=>(h.gr a ha).updT hb hT u⟩
theorem UpU.upd_new {a b c:a6}(h:UpU lb a b)(u:Upd g b c)(hg:a.heap.size≤g)(hlb:lb≤a.heap.size):UpU lb a c:=
 ⟨u.by_.os.trans h.os,u.by_.tape.trans h.tape,u.by_.output.trans h.output,aG h.size u.size,fun k hk hs=>(u.by_.block k (dF hs h.size) (fun e=>by injection e with e;omega)).trans (h.low k hk hs),
  fun k cs t fr ho h1=>by
   have hlt:k<a.heap.size:=(Array.getElem?_eq_some_iff.1 ho).1
   exact u.heap (h.typ k cs t fr ho h1) (by omega)⟩
end
def Al0 (w:a6)(lb:Nat)(ls:List Lst):Prop:=Al1 w lb ls 0 0
theorem Al2.rd1 {w:a6}{ls gs:List Lst}(h:Al2 w lb ls gs)(hi:i<ls.length)(hn:ls.length≤1048576)(hl:(ls.getD i Lst.z).n≤1099511627776):Rd w (ls.getD i Lst.z).A (ls.getD i Lst.z).n (ls.getD i Lst.z).c (gA i (ls.getD i Lst.z).n):=(h.gr i hi).ox.rd (fun x hx=>by
 unfold gA at hx
 obtain⟨j,hj,rfl⟩:=oJ.1 hx
 have:=jJ.1 hj
 unfold jK;rw [cF];omega)
theorem Al2.rd2 {w:a6}{ls gs:List Lst}(h:Al2 w lb ls gs)(hi:i<ls.length)(hn:ls.length≤1048576)(hl:(gs.getD i Lst.z).n≤1099511627776):Rd w (gs.getD i Lst.z).A (gs.getD i Lst.z).n (gs.getD i Lst.z).c (gA i (gs.getD i Lst.z).n):=(h.gr i hi).og.rd (fun x hx=>by
 unfold gA at hx
 obtain⟨j,hj,rfl⟩:=oJ.1 hx
 have:=jJ.1 hj
 unfold jK;rw [cF];omega)
end
end Go.Proofs.YtkepckmdjncehaaGreatDoor
