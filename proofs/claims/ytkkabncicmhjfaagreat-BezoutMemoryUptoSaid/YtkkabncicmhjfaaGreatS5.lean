/- Parts Rf6, Lid, Inv, Ga, Crt, Ca, joined. -/
import Derived.Test.YtkkabncicmhjfaaGreatS4

open Go renaming Addr → aG, Calls → aQ, World → a7
open Int renaming emod_lt_of_pos → rF, emod_nonneg → m7
open List renaming getD_eq_getElem?_getD → bE, getElem?_eq_getElem → cA, getElem?_eq_none → gM, length_append → fH, length_cons → gD, length_take → dK, map_cons → kH, take_append_drop → r9
open Nat renaming add_mul → dV, le_refl → aS, le_trans → a6, lt_of_lt_of_le → d4, min_eq_left → gL, mul_comm → cM, mul_le_mul_right → eA, zero_add → eX, zero_le → bJ
open Ne renaming symm → lD
open Or renaming inr → bW
open Go.Proofs.Tryz renaming prog → aM
namespace Go.Proofs.YtkkabncicmhjfaaGreat
set_option maxHeartbeats 4000000
variable {A Aa Ab Ad Af B:Option aG}{K M N b c ca cap cap2 cb cd cf g i i0 j k lb n na nd nf:Nat}{T:TypeId}{a m s u v x y z:Int}{cs rs zs:List Int}{e:ZC}{js ks ms:List Nat}{p:aG}{sa sb sd sf:Bool}{us:List Value}{w:a7}
open Go.RowKit
theorem PP {m cap':Nat}(hb:b≤w.heap.size)(hx:Wi w A n cap i)(hl:n≤17179869183)(hy:Wi w B m cap' j)(hl':m≤17179869183):aQ aM 66 #[AT A n cap,AT B m cap'] w (Gv w (WR b (Nat.gcd i j))):=by
 obtain⟨xs,f,rfl⟩:=hx
 obtain⟨ys,h,rfl⟩:=hy
 exact (LP f (by omega) h (by omega)).mono (Gv.imp (WR.imp hb))
theorem yM {q r:Int}(h0:y≠0)(he:q*y+r=x)(h1:0≤r)(h2:r<(y.natAbs:Int):=by omega):q=x/y∧r=x%y:=by
 have F:=Int.mul_ediv_add_emod x y
 have D:=m7 x h0
 have H:=Int.emod_lt x h0
 have p:(q-x/y)*y=x%y-r:=by rw [Int.sub_mul,Int.mul_comm (x/y)];omega
 have E:q-x/y=0:=by
  by_cases h:q-x/y=0
  ·exact h
  ·exfalso
   have o:((q-x/y)*y).natAbs<y.natAbs:=by rw [p];omega
   rw [Int.natAbs_mul] at o
   have:1*y.natAbs≤(q-x/y).natAbs*y.natAbs:=eA _ (by omega)
   omega
 have f:q=x/y:=by omega
 refine⟨f,?_⟩
 rw [f,Int.mul_comm] at he
 omega
theorem MR (x y:Int):(x/y).natAbs≤x.natAbs:=by
 by_cases h:y=0
 ·subst h;simp
 ·have H:=Int.mul_ediv_add_emod x y
  have E:=m7 x h
  have I:=Int.emod_lt x h
  have p:(y*(x/y)).natAbs=y.natAbs*(x/y).natAbs:=Int.natAbs_mul _ _
  rcases Nat.lt_or_ge y.natAbs 2 with o | o
  ·have f:y.natAbs=1:=by omega
   rw [f,Nat.one_mul] at p;omega
  ·by_cases F:(x/y).natAbs=0
   ·omega
   ·have L:y.natAbs+(x/y).natAbs≤y.natAbs*(x/y).natAbs+1:=by
     obtain⟨a,q⟩:∃a,y.natAbs=a+1:=⟨y.natAbs-1,by omega⟩
     obtain⟨c,D⟩:∃c,(x/y).natAbs=c+1:=⟨(x/y).natAbs-1,by omega⟩
     rw [q,D,dV,Nat.mul_add];omega
    omega
theorem NO (h:ln x≤N):ln (x/y)≤N+1:=a6 (a6 (iA (MR x y)) h) (Nat.le_succ _)
theorem C2 (h:x=y):cH .eql (bN x y) 0=some true:=fS (kK.2 h)
theorem C3 (h:x≠y):cH .eql (bN x y) 0=some false:=fT (fun e=>h (kK.1 e))
theorem L7 (h:x=y):cH .neq (bN x y) 0=some false:=uA (kK.2 h)
theorem L6 (h:x≠y):cH .neq (bN x y) 0=some true:=u9 (fun e=>h (kK.1 e))
structure Iv (a m u:Int):Prop where
 lo:0≤u
 hi:u<m
 dvd:m∣a*u-1
theorem O8 (h:m=1):Iv x m 0:=⟨by omega,by omega,by rw [h];exact Int.one_dvd _⟩
theorem O7 (h:x=1)(h0:0<m)(h1:m≠1):Iv x m 1:=⟨by omega,by omega,by subst h;exact Int.dvd_zero m⟩
theorem O4 (h1:0≤x)(hx1:x≠1)(hm1:m≠1)(h3:Int.gcd x m=1)(h0:0<m):1<x:=by
 have:x≠0:=fun e=>by rw [e,Int.gcd_zero_left] at h3;omega
 omega
theorem O5 (h:1<x):(m%x).natAbs<x.natAbs:=by
 have f:=m7 m (show x≠0 by omega)
 have o:=rF m (show 0<x by omega)
 omega
theorem ET (a m:Int):Int.gcd (a%m) m=Int.gcd a m:=by
 have e:=Int.mul_ediv_add_emod a m
 have:Int.gcd a m=Int.gcd (a%m+m*(a/m)) m:=by congr 1;omega
 rw [this,Int.gcd_add_mul_left_left]
theorem O6 (h:Int.gcd x m=1):Int.gcd (m%x) x=1:=by rw [ET,Int.gcd_comm];exact h
theorem EF (h:(Int.gcd x y:Int)=1):Int.gcd (x%(y.natAbs:Int)) (y.natAbs:Int)=1:=by
 rw [ET]
 have e:Int.gcd x (y.natAbs:Int)=Int.gcd x y:=by unfold Int.gcd;rw [Int.natAbs_natCast]
 rw [e];omega
theorem yP (h:m∣a%m*u-1):m∣a*u-1:=by
 have e:=Int.mul_ediv_add_emod a m
 have f:a*u-1=(a%m*u-1)+m*(a/m*u):=by
  have:a*u=(m*(a/m)+a%m)*u:=by rw [e]
  rw [this,Int.add_mul,Int.mul_assoc];omega
 rw [f];exact Int.dvd_add h (Int.dvd_mul_right _ _)
theorem EH (hx:1<x)(hm:1<m)(h:Iv (m%x) x u):(m*(x-u)+1).natAbs%x.natAbs=0∧Iv x m ((m*(x-u)+1).tdiv x):=by
 have o:=yP h.dvd
 have U:x∣m*(x-u)+1:=by
  have e:m*(x-u)+1=x*m-(m*u-1):=by rw [Int.mul_sub,Int.mul_comm x m];omega
  rw [e];exact Int.dvd_sub (Int.dvd_mul_right _ _) o
 obtain⟨q,p⟩:=U
 have f:(m*(x-u)+1).tdiv x=q:=by rw [p];exact Int.mul_tdiv_cancel_left _ (by omega)
 have V:1≤u:=by
  have W:=h.lo
  by_cases E:u=0
  ·exfalso
   obtain⟨t,I⟩:=o
   rw [E,Int.mul_zero] at I
   have H:x*(-t)=1:=by rw [Int.mul_neg];omega
   have M:x∣1:=⟨-t,H.symm⟩
   have:=Int.le_of_dvd (by decide) M
   omega
  ·omega
 refine⟨Nat.mod_eq_zero_of_dvd (Int.natAbs_dvd_natAbs.2 ⟨q,p⟩),?_⟩
 rw [f]
 have D:0<m*(x-u):=Int.mul_pos (by omega) (by have:=h.hi;omega)
 have L:m*(x-u)≤m*(x-1):=Int.mul_le_mul_of_nonneg_left (by omega) (by omega)
 have F:m*(x-1)=x*m-m:=by rw [Int.mul_sub,Int.mul_one,Int.mul_comm]
 refine⟨?_,?_,⟨x-u,by omega⟩⟩
 ·refine Int.not_lt.1 fun hl=>?_
  have:=Int.mul_neg_of_pos_of_neg (show 0<x by omega) hl
  omega
 ·refine Int.lt_of_not_ge fun hl=>?_
  have:x*m≤x*q:=Int.mul_le_mul_of_nonneg_left hl (by omega)
  omega
theorem OR (x y:Int):y.natAbs%(Int.gcd x y:Int).natAbs=0:=by
 rw [Int.natAbs_natCast]
 exact Nat.mod_eq_zero_of_dvd (Int.gcd_dvd_natAbs_right x y)
theorem OQ (x y:Int):(x*y).natAbs%(Int.gcd x y:Int).natAbs=0:=by
 rw [Int.natAbs_natCast,Int.natAbs_mul]
 exact Nat.mod_eq_zero_of_dvd (Nat.dvd_trans (Int.gcd_dvd_natAbs_left x y) (Nat.dvd_mul_right _ _))
theorem NX (h:(Int.gcd x y:Int)≠0):(Int.natAbs ((x*y).tdiv (Int.gcd x y:Int)):Int)=(Int.lcm x y:Int):=by
 rw [←EC h,Int.natAbs_tdiv,Int.natAbs_mul,Int.natAbs_mul,Int.natAbs_tdiv]
 show ((x.natAbs*y.natAbs/_:Nat):Int)=((x.natAbs/_*y.natAbs:Nat):Int)
 congr 1
 rw [cM,Nat.mul_div_assoc _ (by rw [Int.natAbs_natCast];exact Int.gcd_dvd_natAbs_left x y),cM]
theorem SX (h:(Int.gcd x y:Int)=0):Bez x y 0 0:=by
 have f:Int.gcd x y=0:=by omega
 obtain⟨rfl,rfl⟩:=Int.gcd_eq_zero_iff.1 f
 exact Bez.ofZero rfl
theorem SW (h:y=0)(hx:x<0):Bez x y (-((1:Nat):Int)) 0:=by
 have:=Bez.ofZero (x:=x) h
 rwa [Int.sign_eq_neg_one_of_neg hx] at this
theorem SU (h:y=0)(hx:0<x):Bez x y ((1:Nat):Int) 0:=by
 have:=Bez.ofZero (x:=x) h
 rwa [Int.sign_eq_one_of_pos hx] at this
theorem FJ (x:Int)(h0:y≠0):x.tdiv (Int.gcd x y:Int)*(Int.gcd x y:Int)=x∧y.tdiv (Int.gcd x y:Int)*(Int.gcd x y:Int)=y∧(0:Int)<(Int.natAbs (y.tdiv (Int.gcd x y:Int)):Int)∧
  Int.gcd (x.tdiv (Int.gcd x y:Int)%(Int.natAbs (y.tdiv (Int.gcd x y:Int)):Int)) (Int.natAbs (y.tdiv (Int.gcd x y:Int)):Int)=1:=by
 have f:0<Int.gcd x y:=Int.gcd_pos_of_ne_zero_right x h0
 have p:=Int.tdiv_mul_cancel (Int.gcd_dvd_left x y)
 have h:=Int.tdiv_mul_cancel (Int.gcd_dvd_right x y)
 refine⟨p,h,?_,?_⟩
 ·have:y.tdiv (Int.gcd x y:Int)≠0:=fun e=>h0 (by rw [←h,e,Int.zero_mul])
  omega
 ·refine EF ?_
  have o:Int.gcd (x.tdiv (Int.gcd x y:Int)*(Int.gcd x y:Int)) (y.tdiv (Int.gcd x y:Int)*(Int.gcd x y:Int))=Int.gcd (x.tdiv (Int.gcd x y:Int)) (y.tdiv (Int.gcd x y:Int))*(Int.gcd x y:Int).natAbs:=Int.gcd_mul_right _ _ _
  rw [p,h,Int.natAbs_natCast] at o
  have q:1*Int.gcd x y=Int.gcd (x.tdiv (Int.gcd x y:Int)) (y.tdiv (Int.gcd x y:Int))*Int.gcd x y:=by rw [Nat.one_mul];exact o
  have:=Nat.eq_of_mul_eq_mul_right f q
  omega
theorem FK (h0:y≠0)(h:Iv (x.tdiv (Int.gcd x y:Int)%(Int.natAbs (y.tdiv (Int.gcd x y:Int)):Int)) (Int.natAbs (y.tdiv (Int.gcd x y:Int)):Int) u):Bez x y u (((Int.gcd x y:Int)-x*u).tdiv y)∧((Int.gcd x y:Int)-x*u).natAbs%y.natAbs=0:=by
 obtain⟨E,f,_,_⟩:=FJ x h0
 have F:0<Int.gcd x y:=Int.gcd_pos_of_ne_zero_right x h0
 generalize x.tdiv (Int.gcd x y:Int)=q at*
 generalize y.tdiv (Int.gcd x y:Int)=p at*
 generalize hgg:(Int.gcd x y:Int)=g at*
 have D:p∣q*u-1:=Int.natAbs_dvd.1 (yP h.dvd)
 have o:y∣g-x*u:=by
  obtain⟨t,_⟩:=D
  refine⟨-t,?_⟩
  rw [←E,←f]
  have:q*g*u=g*(q*u):=by grind
  rw [this,show q*u=p*t+1 by omega]
  grind
 refine⟨⟨fun e=>absurd e h0,?_,fun _=>h.lo,fun _=>?_⟩,Nat.mod_eq_zero_of_dvd (Int.natAbs_dvd_natAbs.2 o)⟩
 ·rw [Int.mul_tdiv_cancel' o,hgg];omega
 ·rw [hgg]
  have I:u*g<(p.natAbs:Int)*g:=Int.mul_lt_mul_of_pos_right h.hi (by omega)
  have H:(y.natAbs:Int)=p.natAbs*g:=by
   rw [←f,Int.natAbs_mul]
   have:(g.natAbs:Int)=g:=by omega
   rw [Int.natCast_mul,this]
  omega
theorem SV (h0:y≠0)(hg:(Int.gcd x y:Int)=1)(h:Iv (x%(y.natAbs:Int)) (y.natAbs:Int) u):∃v,Bez x y u v:=by
 have f:y∣x*u-1:=Int.natAbs_dvd.1 (yP h.dvd)
 have o:y∣1-x*u:=by
  obtain⟨t,_⟩:=f
  exact⟨-t,by rw [Int.mul_neg];omega⟩
 refine⟨(1-x*u).tdiv y,fun e=>absurd e h0,?_,fun _=>h.lo,fun _=>?_⟩
 ·rw [Int.mul_tdiv_cancel' o,hg];omega
 ·rw [hg,Int.mul_one];exact h.hi
theorem O2 {nb:Nat}(hb:b≤w.heap.size)(hx:Zi w sa Aa na ca x)(la:na≤8589934591)(hy:Zi w sb Ab nb cb y)(lb:nb≤8589934591)(h0:y≠0):aQ aM 98 #[J sa Aa na ca,J sb Ab nb cb] w (Gv w (T3 (ZR b (x/y)) (ZR b (x%y)) (Is (v4 0)))):=by
 refine Calls.mono (R:=Gv w (T3 (ZR w.heap.size (x/y)) (ZR w.heap.size (x%y)) (Is (v4 0)))) ?_ (Gv.imp (T3.imp (ZR.imp hb) (ZR.imp hb) Is.imp))
 have Lx:ln x≤8589934591:=a6 hx.ln la
 have Ly:ln y≤8589934591:=a6 hy.ln lb
 refine bP Tryz.func98 G (n:=42) G (bq G) (args:= [J sa Aa na ca,J sb Ab nb cb]) (bH [(0,J sa Aa na ca),(1,J sb Ab nb cb)] ⟨rfl,rfl,Fo⟩ (sr (bx (O sa Aa na ca) (Ext.refl w) G G G fun _ _ mj _ _ nh=>(d5 (O sb Ab nb cb) nh mj.lt G G G fun g6 _ dt _ _ e8 oe=>(bF [F0,S0] oe dt.lt (fun _=>by kernel_rfl) G fun dr _ df ef _ dw nl=>(bF [F0,S0] nl df.lt (fun _=>by kernel_rfl) G fun du _ dd ep _ bz fi=>(mv 1 G (aA (sr (lo a8 (mj.ext (e8.t (dw.t bz))) (O sa Aa na ca) G G G (lo a8 (dt.ext (dw.t bz)) (O sb Ab nb cb) G G G ?_)))))))))))
 have dv:ln (x.tdiv y)≤8589934591:=a6 (fC _ _) Lx
 have cm:ln (x.tmod y)≤8589934591:=a6 (rZ _ _) Lx
 refine cl (vs:= [J sa Aa na ca,J sb Ab nb cb]) fi (yG fi.size (hx.ext fi) (aL la G) (hy.ext fi) (aL lb G) h0) G (by kernel_rfl) fun _ _ nx bp oa=>?_
 obtain⟨_,_,_,rfl,⟨X,Z,aa,W,rfl,fe⟩,⟨M,E,I,L,rfl,cg⟩,rfl⟩:=nx
 refine mv 1 G (pu (v:= J X Z aa W) G (pu (v:= J M E I L) G (pu (v:= v4 0) G (bF [F0,S0] oa (dd.ext bp).lt (fun _=>by kernel_rfl) G fun fj _ fq ez _ U nu=>(bF [F0,S0] nu fq.lt (fun _=>by kernel_rfl) G fun fh _ jq fd _ F od=>?_)))))
 have V:=(fq.ext F)
 refine so a8 V (O X Z aa W) od ez G G G G fun _ ci H my=>?_
 have Y:=(jq.vN H)
 refine so a8 Y (O M E I L) my fd G G G G fun _ an o ix=>(mv 1 G (aA (aH (aH ?_))))
 have nt:=Int.tdiv_mul_add_tmod x y
 have ha:=pQ (x:=x) h0
 by_cases hk:0≤x.tmod y
 ·have hu:=yM (q:=x.tdiv y) (r:=x.tmod y) (x:=x) h0 nt hk
  refine aJ (mv 1 G (pu (v:= BY) G (mv 1 G (lo a8 an (O M E I L) G G G (cl (vs:= [J M E I L]) ix (eN (((cg.ext (U.t F)).updT V H).updT Y o).zi (cg.le (aL cm G))) G (by kernel_rfl) fun _ mm mz cx bt=>?_)))))
  obtain rfl:=mz
  refine aN G G G true (LB hk) (pu (v:= By) G (aA (bB G (aH (bH [(3,no g6 0),(4,no dr 0),(5,no du 0),(7,no fj 0),(8,no fh 0),(9,v4 0)] ⟨rfl,rfl,rfl,rfl,rfl,rfl,Fo⟩ ?_)))))
  obtain⟨mf,hv,cn⟩:∃v,v=mm.drew∧Ext mm v:=⟨_,rfl,aD.drew⟩
  have ae:=bt.trans cn
  have fa:=((((df.ext (bz.t (bp.t (U.t F)))).vN H).vN o).ext (cx.t cn))
  obtain⟨ng,ip,ko,dz,_⟩:=eV (P:=aM) (us:= (O X Z aa W)) (off:=0) a8 G fa (bq G) G (O X Z aa W) rfl
  have h:=dz.ext ae ef
  have eg:=(((((dd.ext (bp.t (U.t F))).vN H).vN o).ext (cx.t cn)).vN dz)
  obtain⟨ny,ie,kx,fg,_⟩:=eV (P:=aM) (us:= (O M E I L)) (off:=0) a8 G eg (bq G) G (O M E I L) rfl
  have p:=fg.ext h ep
  refine gI bR (w:=mf) [J X Z aa W,J M E I L,I0,undef,undef,I0] [mf,ng,ny] [3,4] [[],[],[],[0],[1],[2]] [[],[],[],[0],[0,1,3],[0,1,2,3,4]] [(0,0),(1,0),(1,1),(2,0),(2,1),(2,2),(3,0),(4,1),(5,2)] G hv ?_ ?_
  ·refine aX _ G G G G G (cB G (aW a8 ((ci.vN o).ext (cx.t cn)) (O X Z aa W) G (bq G) G)) (aX _ G G G G G (cB G (aW a8 (an.ext (cx.t cn)) (O M E I L) G (bq G) G)) (aX _ G G G G G (cB G (aW a8 ((an.ext (cx.t cn)).vN dz) (O M E I L) G (bq G) G)) (aX _ G G G G G (cJ G) (aX _ G G G G G (cJ G) (aX _ G G G G G (cJ G) (f7 _ G G G G G (eR G G ip) (f7 _ G G G G G (eR G G ie) (aX _ G G G G G (kL G) ?_))))))))
   exact gH
  clear hv
  refine fU [(3,no g6 0),(4,no dr 0),(5,no du 0),(7,no fj 0),(8,no fh 0),(6,v4 0)] ⟨rfl,rfl,rfl,rfl,rfl,rfl,Fo⟩ (aK (bD (cT (bC [J X Z aa W,J M E I L,I0] G ⟨⟨_,rfl,aW a8 (ko.vN fg) (O X Z aa W) G (bq G) rfl⟩,⟨_,rfl,aW a8 kx (O M E I L) G (bq G) rfl⟩,rfl,Fo⟩ ?_))))
  exact⟨_,rfl,⟨_,_,_,rfl,⟨_,_,_,_,rfl,(((((((fe.ext (U.t F)).updT V H).updT Y o).ext (cx.t cn)).updT fa dz).updT eg fg)).cast (hu.1)⟩,⟨_,_,_,_,rfl,(((((((cg.ext (U.t F)).updT V H).updT Y o).ext (cx.t cn)).updT fa dz).updT eg fg)).cast (hu.2)⟩,rfl⟩,p⟩
 ·refine aJ (mv 1 G (pu (v:= BY) G (mv 1 G (lo a8 an (O M E I L) G G G (cl (vs:= [J M E I L]) ix (eN (((cg.ext (U.t F)).updT V H).updT Y o).zi (cg.le (aL cm G))) G (by kernel_rfl) fun _ _ nj D bt=>?_)))))
  obtain rfl:=nj
  refine aN G G G false (LC (by omega)) (pu (v:= BY) G (aA (aV G (b8 (aK (aH (aH ?_)))))))
  by_cases hp:0<y
  ·have hu:=yM (q:=x.tdiv y-1) (r:=x.tmod y+(Int.natAbs y:Int)) (x:=x) h0 (by rw [Int.sub_mul,Int.one_mul];omega) (by omega)
   refine aJ (lo a8 ((((dt.ext (dw.t (bz.t (bp.t (U.t F))))).vN H).vN o).ext D) (O sb Ab nb cb) G G G (cl (vs:= [J sb Ab nb cb]) bt (eN (hy.ext bt) (aL lb G)) G (by kernel_rfl) fun _ _ oh bv ae=>?_))
   obtain rfl:=oh
   refine aN G G G true (L8 hp) (aA (bB G ?_))
   have pe:ln ((x.tdiv y)-1)≤8589934592:=a6 (gG dv (show ln 1≤1 by decide+kernel)) (by decide)
   refine cU bR 3 [] [Is (J X Z aa W),ZR w.heap.size (1),ZR w.heap.size ((x.tdiv y)-1)] [[],[],[0,1]] [[],[],[0,1],[0,1,2]] rfl
    (aF G G (aC G G ?_) (aF G G (aC G G ?_) (aF G G (aC G G ?_) cE))) ?_
   ·exact fun _ nk=>aB (lo a8 ((ci.vN o).ext (D.t (bv.t nk))) (O X Z aa W) G G G (aE G aD G))
   ·intro _ nz
    have h:=ae.trans nz
    refine aB (cl (vs:= [v4 1]) h (F5 h.size) G (by kernel_rfl) fun _ _ ob np p=>?_)
    obtain⟨_,_,_,_,rfl,oc⟩:=ob
    exact aE G np ⟨_,_,_,_,rfl,oc⟩
   ·intro _ mr
    have h:=ae.trans mr
    refine dk G G (aO G G fun _ _ ni _ nw=>?_)
    obtain⟨iy,kw,iz,lu,rfl,dn⟩:=ni
    have dn:=dn.ext nw
    refine aB ?_
    have om:ln ((x.tdiv y)-1)≤8589934592:=a6 (gG dv (show ln 1≤1 by decide+kernel)) (by decide)
    refine cl (vs:= [J X Z aa W,J iy kw iz lu]) h (sC h.size ((((fe.ext (U.t F)).updT V H).updT Y o).ext (D.t (bv.t mr))).zi (fe.le (aL dv G)) dn.zi (dn.le (a6 (show ln 1≤1 by decide+kernel) (by decide)))) G (by kernel_rfl) fun _ _ lh jd p=>?_
    obtain⟨_,_,_,_,rfl,mb⟩:=lh
    exact aE G jd ⟨_,_,_,_,rfl,mb⟩
   ·intro _ av
    have h:=ae.trans av
    refine dk G G (aO G G fun _ _ kz _ me=>?_)
    obtain⟨_,_,_,_,rfl,fk⟩:=kz
    have fk:=fk.ext me
    refine aO G G fun _ _ mo _ jy=>?_
    obtain⟨bh,ba,bi,az,rfl,fb⟩:=mo
    have fb:=fb.ext jy
    refine aB ?_
    have dc:=((ci.vN o).ext (D.t (bv.t av)))
    refine so a8 dc (O bh ba bi az) h ez G G G G fun _ go bf p=>(aR (cF (aK (aH ?_))))
    have dy:ln ((Int.natAbs y:Int))≤8589934591:=(by rw [fQ];exact Ly)
    have on:ln ((x.tmod y)+(Int.natAbs y:Int))≤8589934592:=a6 (gO cm dy) (by decide)
    refine cU bR 4 [] [Is (J M E I L),Is (J sb Ab nb cb),ZR w.heap.size ((Int.natAbs y:Int)),ZR w.heap.size ((x.tmod y)+(Int.natAbs y:Int))] [[],[],[1],[0,2]] [[],[],[1],[0,1,2],[0,1,2,3]] rfl
     (aF G G (aC G G ?_) (aF G G (aC G G ?_) (aF G G (aC G G ?_) (aF G G (aC G G ?_) cE)))) ?_
    ·exact fun _ ll=>aB (lo a8 (((an.ext (D.t (bv.t av))).vN bf).ext ll) (O M E I L) G G G (aE G aD G))
    ·exact fun _ ku=>aB (lo a8 ((((((dt.ext (dw.t (bz.t (bp.t (U.t F))))).vN H).vN o).ext (D.t (bv.t av))).vN bf).ext ku) (O sb Ab nb cb) G G G (aE G aD G))
    ·intro _ kf
     have f:=p.trans kf
     refine dk G G (aB ?_)
     have ot:ln ((Int.natAbs y:Int))≤8589934591:=(by rw [fQ];exact Ly)
     refine cl (vs:= [J sb Ab nb cb]) f (mN f.size (hy.ext f) (aL lb G)) G (by kernel_rfl) fun _ _ ju lg bc=>?_
     obtain⟨_,_,_,_,rfl,lv⟩:=ju
     exact aE G lg ⟨_,_,_,_,rfl,lv⟩
    ·intro _ fm
     have f:=p.trans fm
     refine dk G G (aO G G fun _ _ mx _ jz=>?_)
     obtain⟨jg,mp,ma,jh,rfl,dh⟩:=mx
     have dh:=dh.ext jz
     refine aB ?_
     have ov:ln ((x.tmod y)+(Int.natAbs y:Int))≤8589934592:=a6 (gO cm dy) (by decide)
     refine cl (vs:= [J M E I L,J jg mp ma jh]) f (qF f.size ((((((cg.ext (U.t F)).updT V H).updT Y o).ext (D.t (bv.t av))).updT dc bf).ext fm).zi (cg.le (aL cm G)) dh.zi (dh.le (aL dy G))) G (by kernel_rfl) fun _ _ ib kv bc=>?_
     obtain⟨_,_,_,_,rfl,ki⟩:=ib
     exact aE G kv ⟨_,_,_,_,rfl,ki⟩
    ·intro _ br
     have f:=p.trans br
     refine dk G G (dk G G (aO G G fun _ _ lp _ jb=>?_))
     obtain⟨_,_,_,_,rfl,gb⟩:=lp
     have gb:=gb.ext jb
     refine aO G G fun _ _ jj _ mq=>?_
     obtain⟨ar,ao,aj,au,rfl,ew⟩:=jj
     have ew:=ew.ext mq
     refine aB ?_
     have cy:=(((an.ext (D.t (bv.t av))).vN bf).ext br)
     refine so a8 cy (O ar ao aj au) f fd G G G G fun ft el ch bc=>(aR (cF (aK (aH (bH [(4,no dr 0),(5,no du 0),(7,no fj 0),(8,no fh 0)] ⟨rfl,rfl,rfl,rfl,Fo⟩ ?_)))))
     obtain⟨fw,hv,ag⟩:∃v,v=ft.drew∧Ext ft v:=⟨_,rfl,aD.drew⟩
     have eh:=bc.trans ag
     have cu:=((((((((df.ext (bz.t (bp.t (U.t F)))).vN H).vN o).ext (D.t (bv.t av))).vN bf).ext br).vN ch).ext ag)
     obtain⟨ig,gx,ia,co,_⟩:=eV (P:=aM) (us:= (O bh ba bi az)) (off:=0) a8 G cu (bq G) G (O bh ba bi az) rfl
     have fc:=co.ext eh ef
     have cz:=(((((((((dd.ext (bp.t (U.t F))).vN H).vN o).ext (D.t (bv.t av))).vN bf).ext br).vN ch).ext ag).vN co)
     obtain⟨jt,gg,gy,de,_⟩:=eV (P:=aM) (us:= (O ar ao aj au)) (off:=0) a8 G cz (bq G) G (O ar ao aj au) rfl
     have ei:=de.ext fc ep
     refine gI bR (w:=fw) [J bh ba bi az,J ar ao aj au,undef,undef,I0] [fw,ig,jt] [2,3] [[],[],[0],[1],[]] [[],[],[0],[0,1,2],[0,1,2,3]] [(0,0),(1,0),(1,1),(2,0),(3,1),(4,2)] G hv ?_ ?_
     ·refine aX _ G G G G G (cB G (aW a8 (((go.ext br).vN ch).ext ag) (O bh ba bi az) G (bq G) G)) (aX _ G G G G G (cB G (aW a8 (el.ext ag) (O ar ao aj au) G (bq G) G)) (aX _ G G G G G (cB G (aW a8 ((el.ext ag).vN co) (O ar ao aj au) G (bq G) G)) (f7 _ G G G G G (eR G G gx) (f7 _ G G G G G (eR G G gg) (aX _ G G G G G (kL G) ?_)))))
      exact gH
     clear hv
     refine fU [(4,no dr 0),(5,no du 0),(6,v4 0)] ⟨rfl,rfl,rfl,Fo⟩ (aK (bD (bC [J bh ba bi az,J ar ao aj au,I0] G ⟨⟨_,rfl,aW a8 (ia.vN de) (O bh ba bi az) G (bq G) rfl⟩,⟨_,rfl,aW a8 gy (O ar ao aj au) G (bq G) rfl⟩,rfl,Fo⟩ ?_)))
     exact⟨_,rfl,⟨_,_,_,rfl,⟨_,_,_,_,rfl,(((((((fb.updT dc bf).ext br).updT cy ch).ext ag).updT cu co).updT cz de)).cast (hu.1)⟩,⟨_,_,_,_,rfl,(((((ew.updT cy ch).ext ag).updT cu co).updT cz de)).cast (hu.2)⟩,rfl⟩,ei⟩
  ·have hu:=yM (q:=x.tdiv y+1) (r:=x.tmod y+(Int.natAbs y:Int)) (x:=x) h0 (by rw [Int.add_mul,Int.one_mul];omega) (by omega)
   refine aJ (lo a8 ((((dt.ext (dw.t (bz.t (bp.t (U.t F))))).vN H).vN o).ext D) (O sb Ab nb cb) G G G (cl (vs:= [J sb Ab nb cb]) bt (eN (hy.ext bt) (aL lb G)) G (by kernel_rfl) fun _ _ kq ab ae=>?_))
   obtain rfl:=kq
   refine aN G G G false (L9 (by omega)) (aA (aV G ?_))
   have ow:ln ((x.tdiv y)+1)≤8589934592:=a6 (gO dv (show ln 1≤1 by decide+kernel)) (by decide)
   refine cU bR 3 [] [Is (J X Z aa W),ZR w.heap.size (1),ZR w.heap.size ((x.tdiv y)+1)] [[],[],[0,1]] [[],[],[0,1],[0,1,2]] rfl
    (aF G G (aC G G ?_) (aF G G (aC G G ?_) (aF G G (aC G G ?_) cE))) ?_
   ·exact fun _ jo=>aB (lo a8 ((ci.vN o).ext (D.t (ab.t jo))) (O X Z aa W) G G G (aE G aD G))
   ·intro _ kc
    have h:=ae.trans kc
    refine aB (cl (vs:= [v4 1]) h (F5 h.size) G (by kernel_rfl) fun _ _ kj jm p=>?_)
    obtain⟨_,_,_,_,rfl,iq⟩:=kj
    exact aE G jm ⟨_,_,_,_,rfl,iq⟩
   ·intro _ fo
    have h:=ae.trans fo
    refine dk G G (aO G G fun _ _ jr _ ml=>?_)
    obtain⟨jf,mu,ir,iu,rfl,dg⟩:=jr
    have dg:=dg.ext ml
    refine aB ?_
    have oz:ln ((x.tdiv y)+1)≤8589934592:=a6 (gO dv (show ln 1≤1 by decide+kernel)) (by decide)
    refine cl (vs:= [J X Z aa W,J jf mu ir iu]) h (qF h.size ((((fe.ext (U.t F)).updT V H).updT Y o).ext (D.t (ab.t fo))).zi (fe.le (aL dv G)) dg.zi (dg.le (a6 (show ln 1≤1 by decide+kernel) (by decide)))) G (by kernel_rfl) fun _ _ mg jx p=>?_
    obtain⟨_,_,_,_,rfl,mw⟩:=mg
    exact aE G jx ⟨_,_,_,_,rfl,mw⟩
   ·intro _ ah
    have h:=ae.trans ah
    refine dk G G (aO G G fun _ _ io _ kt=>?_)
    obtain⟨_,_,_,_,rfl,fp⟩:=io
    have fp:=fp.ext kt
    refine aO G G fun _ _ je _ jk=>?_
    obtain⟨bg,bo,bd,bm,rfl,ey⟩:=je
    have ey:=ey.ext jk
    refine aB ?_
    have da:=((ci.vN o).ext (D.t (ab.t ah)))
    refine so a8 da (O bg bo bd bm) h ez G G G G fun _ gk bj p=>(aR (cF (aK (aH ?_))))
    have dx:ln ((Int.natAbs y:Int))≤8589934591:=(by rw [fQ];exact Ly)
    have oo:ln ((x.tmod y)+(Int.natAbs y:Int))≤8589934592:=a6 (gO cm dx) (by decide)
    refine cU bR 4 [] [Is (J M E I L),Is (J sb Ab nb cb),ZR w.heap.size ((Int.natAbs y:Int)),ZR w.heap.size ((x.tmod y)+(Int.natAbs y:Int))] [[],[],[1],[0,2]] [[],[],[1],[0,1,2],[0,1,2,3]] rfl
     (aF G G (aC G G ?_) (aF G G (aC G G ?_) (aF G G (aC G G ?_) (aF G G (aC G G ?_) cE)))) ?_
    ·exact fun _ jw=>aB (lo a8 (((an.ext (D.t (ab.t ah))).vN bj).ext jw) (O M E I L) G G G (aE G aD G))
    ·exact fun _ ji=>aB (lo a8 ((((((dt.ext (dw.t (bz.t (bp.t (U.t F))))).vN H).vN o).ext (D.t (ab.t ah))).vN bj).ext ji) (O sb Ab nb cb) G G G (aE G aD G))
    ·intro _ jl
     have f:=p.trans jl
     refine dk G G (aB ?_)
     have oq:ln ((Int.natAbs y:Int))≤8589934591:=(by rw [fQ];exact Ly)
     refine cl (vs:= [J sb Ab nb cb]) f (mN f.size (hy.ext f) (aL lb G)) G (by kernel_rfl) fun _ _ mt jc bc=>?_
     obtain⟨_,_,_,_,rfl,lj⟩:=mt
     exact aE G jc ⟨_,_,_,_,rfl,lj⟩
    ·intro _ fx
     have f:=p.trans fx
     refine dk G G (aO G G fun _ _ md _ mh=>?_)
     obtain⟨lm,jv,kk,ij,rfl,dm⟩:=md
     have dm:=dm.ext mh
     refine aB ?_
     have ou:ln ((x.tmod y)+(Int.natAbs y:Int))≤8589934592:=a6 (gO cm dx) (by decide)
     refine cl (vs:= [J M E I L,J lm jv kk ij]) f (qF f.size ((((((cg.ext (U.t F)).updT V H).updT Y o).ext (D.t (ab.t ah))).updT da bj).ext fx).zi (cg.le (aL cm G)) dm.zi (dm.le (aL dx G))) G (by kernel_rfl) fun _ _ iw ik bc=>?_
     obtain⟨_,_,_,_,rfl,ja⟩:=iw
     exact aE G ik ⟨_,_,_,_,rfl,ja⟩
    ·intro _ bu
     have f:=p.trans bu
     refine dk G G (dk G G (aO G G fun _ _ mi _ kn=>?_))
     obtain⟨_,_,_,_,rfl,ge⟩:=mi
     have ge:=ge.ext kn
     refine aO G G fun _ _ il _ jp=>?_
     obtain⟨ai,aq,am,aw,rfl,ee⟩:=il
     have ee:=ee.ext jp
     refine aB ?_
     have cp:=(((an.ext (D.t (ab.t ah))).vN bj).ext bu)
     refine so a8 cp (O ai aq am aw) f fd G G G G fun fy ej cj bc=>(aR (cF (aK (aH (bH [(4,no dr 0),(5,no du 0),(7,no fj 0),(8,no fh 0)] ⟨rfl,rfl,rfl,rfl,Fo⟩ ?_)))))
     obtain⟨fv,hv,ak⟩:∃v,v=fy.drew∧Ext fy v:=⟨_,rfl,aD.drew⟩
     have eh:=bc.trans ak
     have cv:=((((((((df.ext (bz.t (bp.t (U.t F)))).vN H).vN o).ext (D.t (ab.t ah))).vN bj).ext bu).vN cj).ext ak)
     obtain⟨mn,gi,gf,ck,_⟩:=eV (P:=aM) (us:= (O bg bo bd bm)) (off:=0) a8 G cv (bq G) G (O bg bo bd bm) rfl
     have fc:=ck.ext eh ef
     have ct:=(((((((((dd.ext (bp.t (U.t F))).vN H).vN o).ext (D.t (ab.t ah))).vN bj).ext bu).vN cj).ext ak).vN ck)
     obtain⟨ky,gj,gt,dl,_⟩:=eV (P:=aM) (us:= (O ai aq am aw)) (off:=0) a8 G ct (bq G) G (O ai aq am aw) rfl
     have ei:=dl.ext fc ep
     refine gI bR (w:=fv) [J bg bo bd bm,J ai aq am aw,undef,undef,I0] [fv,mn,ky] [2,3] [[],[],[0],[1],[]] [[],[],[0],[0,1,2],[0,1,2,3]] [(0,0),(1,0),(1,1),(2,0),(3,1),(4,2)] G hv ?_ ?_
     ·refine aX _ G G G G G (cB G (aW a8 (((gk.ext bu).vN cj).ext ak) (O bg bo bd bm) G (bq G) G)) (aX _ G G G G G (cB G (aW a8 (ej.ext ak) (O ai aq am aw) G (bq G) G)) (aX _ G G G G G (cB G (aW a8 ((ej.ext ak).vN ck) (O ai aq am aw) G (bq G) G)) (f7 _ G G G G G (eR G G gi) (f7 _ G G G G G (eR G G gj) (aX _ G G G G G (kL G) ?_)))))
      exact gH
     clear hv
     refine fU [(4,no dr 0),(5,no du 0),(6,v4 0)] ⟨rfl,rfl,rfl,Fo⟩ (aK (bD (bC [J bg bo bd bm,J ai aq am aw,I0] G ⟨⟨_,rfl,aW a8 (gf.vN dl) (O bg bo bd bm) G (bq G) rfl⟩,⟨_,rfl,aW a8 gt (O ai aq am aw) G (bq G) rfl⟩,rfl,Fo⟩ ?_)))
     exact⟨_,rfl,⟨_,_,_,rfl,⟨_,_,_,_,rfl,(((((((ey.updT da bj).ext bu).updT cp cj).ext ak).updT cv ck).updT ct dl)).cast (hu.1)⟩,⟨_,_,_,_,rfl,(((((ee.updT cp cj).ext ak).updT cv ck).updT ct dl)).cast (hu.2)⟩,rfl⟩,ei⟩
theorem k8 {nb:Nat}(hb:b≤w.heap.size)(hx:Zi w sa Aa na ca x)(la:na≤8589934591)(hy:Zi w sb Ab nb cb y)(lb:nb≤8589934591)(h0:y≠0):aQ aM 71 #[J sa Aa na ca,J sb Ab nb cb] w (Gv w (T2 (ZR b (x%y)) (Is (v4 0)))):=by
 refine Calls.mono (R:=Gv w (T2 (ZR w.heap.size (x%y)) (Is (v4 0)))) ?_ (Gv.imp (T2.imp (ZR.imp hb) Is.imp))
 have Lx:ln x≤8589934591:=a6 hx.ln la
 have Ly:ln y≤8589934591:=a6 hy.ln lb
 refine bP Tryz.func71 G (n:=18) G (bq G) (args:= [J sa Aa na ca,J sb Ab nb cb]) (bH [(0,J sa Aa na ca),(1,J sb Ab nb cb)] ⟨rfl,rfl,Fo⟩ (sr (bx (O sa Aa na ca) (Ext.refl w) G G G fun _ _ Y _ _ aw=>(d5 (O sb Ab nb cb) aw Y.lt G G G fun _ _ aa _ _ e8 aq=>(bF [F0,S0] aq aa.lt (fun _=>by kernel_rfl) G fun _ _ D ah _ ae q=>(mv 1 G (aA (sr (lo a8 (Y.ext (e8.t ae)) (O sa Aa na ca) G G G (lo a8 (aa.ext ae) (O sb Ab nb cb) G G G ?_))))))))))
 have bg:ln (x/y)≤8589934592:=NO Lx
 have bi:ln (x%y)≤8589934591:=a6 (bO h0) Ly
 refine cl (vs:= [J sa Aa na ca,J sb Ab nb cb]) q (O2 q.size (hx.ext q) (aL la G) (hy.ext q) (aL lb G) h0) G (by kernel_rfl) fun _ _ az U bd=>?_
 obtain⟨_,_,_,rfl,⟨aj,Z,an,W,rfl,_⟩,⟨f,p,h,o,rfl,ar⟩,rfl⟩:=az
 refine mv 1 G (pu (v:= J aj Z an W) G (pu (v:= J f p h o) G (pu (v:= v4 0) G (bF [F0,S0] bd (D.ext U).lt (fun _=>by kernel_rfl) G fun _ _ I ak _ ab bf=>(bF [F0,S0] bf I.lt (fun _=>by kernel_rfl) G fun _ _ ag V _ L ba=>?_)))))
 have F:=(I.ext L)
 refine so a8 F (O aj Z an W) ba ak G G G G fun _ _ M bc=>?_
 have E:=(ag.vN M)
 refine so a8 E (O f p h o) bc V G G G G fun _ X am ao=>(mv 1 G (aA (sr (lo a8 X (O f p h o) G G G (mv 1 G ?_)))))
 have H:=(((D.ext (U.t (ab.t L))).vN M).vN am)
 refine so a8 H (O f p h o) ao ah G G G G fun _ ai av au=>(mv 1 G (aA (bD (bC [J f p h o,I0] G ⟨⟨_,rfl,aW a8 ai (O f p h o) G (bq G) rfl⟩,rfl,Fo⟩ ?_))))
 exact⟨_,rfl,⟨_,_,rfl,⟨_,_,_,_,rfl,((((ar.ext (ab.t L)).updT F M).updT E am).updT H av)⟩,rfl⟩,au⟩
theorem nO {nb:Nat}(hb:b≤w.heap.size)(hx:Zi w sa Aa na ca x)(la:na≤8589934591)(hy:Zi w sb Ab nb cb y)(lb:nb≤8589934591):aQ aM 35 #[J sa Aa na ca,J sb Ab nb cb] w (Gv w (ZR b ((Int.gcd x y:Int)))):=by
 refine Calls.mono (R:=Gv w (ZR w.heap.size ((Int.gcd x y:Int)))) ?_ (Gv.imp (ZR.imp hb))
 have Lx:ln x≤8589934591:=a6 hx.ln la
 have Ly:ln y≤8589934591:=a6 hy.ln lb
 refine bP Tryz.func35 G (n:=13) G (bq G) (args:= [J sa Aa na ca,J sb Ab nb cb]) (bH [(0,J sa Aa na ca),(1,J sb Ab nb cb)] ⟨rfl,rfl,Fo⟩ (sr (bx (O sa Aa na ca) (Ext.refl w) G G G fun g1 _ D _ _ Y=>(d5 (O sb Ab nb cb) Y D.lt G G G fun g6 _ F _ _ e8 W=>(bF [F0,S0] W F.lt (fun _=>by kernel_rfl) G fun _ _ E L _ H f=>(aA (sr (pf g1 1 G (aP G G (bA cZ (D.ext (e8.t H)) G) (pf g6 1 G (aP G G (bA cZ (F.ext H) G) ?_)))))))))))
 have ae:(wd (Nat.gcd (Int.natAbs x) (Int.natAbs y))).length≤8589934591:=a6 (fK x y) (Nat.max_le.2 ⟨Lx,Ly⟩)
 refine cl (vs:= [AT Aa na ca,AT Ab nb cb]) f (PP f.size (hx.ext f).wi (aL la G) (hy.ext f).wi (aL lb G)) G (by kernel_rfl) fun _ _ V M Z=>?_
 obtain⟨o,h,p,rfl,X,U⟩:=V
 refine mv 1 G (aA (sr (mv 1 G (pu (v:= .agg #[F0,AT o h p]) G ?_))))
 have q:=(E.ext M)
 refine so a8 q [F0,AT o h p] Z L G G G G fun _ I aa ab=>(aA (bD (bC [.agg #[F0,AT o h p]] G ⟨⟨_,rfl,aW a8 I [F0,AT o h p] G (bq G) rfl⟩,Fo⟩ ?_)))
 exact⟨_,rfl,⟨_,_,_,_,rfl,(((vM X U).updT q aa)).cast (G)⟩,ab⟩
theorem mM (hb:b≤w.heap.size):aQ aM 75 #[] w (Gv w (ZR b (1))):=by
 refine Calls.mono (R:=Gv w (ZR w.heap.size (1))) ?_ (Gv.imp (ZR.imp hb))
 refine bP Tryz.func75 G (n:=3) G (bq G) (args:= []) (bH [] Fo (sr (al [F0,S0] (Ext.refl w) (fun _=>by kernel_rfl) G fun _ _ F U _ h=>(aA (sr (fA G G (k:=1) (e:=36) [AI 1] (fun _=>by kernel_rfl) fun D _ q=>?_))))))
 have V:=O1.mk_ (x:=1) (b:=w.heap.size) q h.size
 have p:=q.ext
 have L:=h.trans p
 have M:=pY V (by decide:1≤18446744073709551615) (by decide:1≠0)
 have I:=oL (by decide:1≤18446744073709551615) (by decide:1≠0)
 refine pu (v:= .agg #[F0,AT (some ⟨D,0,none⟩) 1 1]) G ?_
 have f:=(F.ext p)
 refine so a8 f [F0,AT (some ⟨D,0,none⟩) 1 1] L U G G G G fun _ o E H=>(aA (bD (bC [.agg #[F0,AT (some ⟨D,0,none⟩) 1 1]] G ⟨⟨_,rfl,aW a8 o [F0,AT (some ⟨D,0,none⟩) 1 1] G (bq G) rfl⟩,Fo⟩ ?_)))
 exact⟨_,rfl,⟨_,_,_,_,rfl,(((vM I M).updT f E)).cast (G)⟩,H⟩
def I1 (N:Nat):Prop:=∀(w:a7) (b:Nat) (sa:Bool) (Aa:Option aG) (na ca:Nat) (x:Int) (sb:Bool) (Ab:Option aG) (nb cb:Nat) (m:Int),x.natAbs<N→b≤w.heap.size→Zi w sa Aa na ca x→na≤1073741824→Zi w sb Ab nb cb m→nb≤1073741824→0<m→0≤x→x<m→Int.gcd x m=1→
 aQ aM 72 #[J sa Aa na ca,J sb Ab nb cb] w (fun e w'=>∃u,Iv x m u∧Gv w (ZR b u) e w')
theorem P7 {nb:Nat}(hb:b≤w.heap.size)(hx:Zi w sa Aa na ca x)(la:na≤1073741824)(hm:Zi w sb Ab nb cb m)(lb:nb≤1073741824)(h0:0<m)(h1:0≤x)(h2:x<m)(h3:Int.gcd x m=1)(ih:I1 x.natAbs):aQ aM 72 #[J sa Aa na ca,J sb Ab nb cb] w (fun e w'=>∃u,Iv x m u∧Gv w (ZR b u) e w'):=by
 refine Calls.mono (R:=fun e w'=>∃u,Iv x m u∧Gv w (ZR w.heap.size u) e w') ?_ (fun e _ h=>by obtain⟨u,h1,h2⟩:=h;exact⟨u,h1,Gv.imp (ZR.imp hb) _ _ h2⟩)
 have Lx:ln x≤1073741824:=a6 hx.ln la
 have Lm:ln m≤1073741824:=a6 hm.ln lb
 refine bP Tryz.func72 G (n:=50) G (bq G) (args:= [J sa Aa na ca,J sb Ab nb cb]) (bH [(0,J sa Aa na ca),(1,J sb Ab nb cb)] ⟨rfl,rfl,Fo⟩ (sr (bx (O sa Aa na ca) (Ext.refl w) G G G fun _ _ ba _ _ jr=>(d5 (O sb Ab nb cb) jr ba.lt G G G fun _ _ dv _ _ e8 ll=>(bF [F0,S0] ll dv.lt (fun _=>by kernel_rfl) G fun _ _ ai bj _ Z fe=>(aA (aH ?_)))))))
 refine cU bR 3 [] [Is (J sb Ab nb cb),ZR w.heap.size (1),Is (v4 (bN m 1))] [[],[],[0,1]] [[],[],[0,1],[0,1,2]] rfl
  (aF G G (aC G G ?_) (aF G G (aC G G ?_) (aF G G (aC G G ?_) cE))) ?_
 ·exact fun _ jx=>aB (lo a8 (dv.ext (Z.t jx)) (O sb Ab nb cb) G G G (aE G aD G))
 ·intro kn jz
  have E:=fe.trans jz
  refine aB (cl (vs:= []) E (mM (w:=kn) E.size) G (by kernel_rfl) fun _ _ lm lg f=>?_)
  obtain⟨_,_,_,_,rfl,lu⟩:=lm
  exact aE G lg ⟨_,_,_,_,rfl,lu⟩
 ·intro _ jo
  have E:=fe.trans jo
  refine dk G G (aO G G fun _ _ jl _ ku=>?_)
  obtain⟨jk,jt,kv,kf,rfl,du⟩:=jl
  have du:=du.ext ku
  refine aB (cl (vs:= [J sb Ab nb cb,J jk jt kv kf]) E (uP (hm.ext E) (aL lb G) du.zi (du.le (a6 (show ln 1≤1 by decide+kernel) (by decide)))) G (by kernel_rfl) fun _ _ kx kt f=>?_)
  obtain rfl:=kx
  exact aE G kt rfl
 ·intro kw o
  have E:=fe.trans o
  refine dk G G (aO G G fun _ _ kc _ lj=>?_)
  obtain⟨_,_,_,_,rfl,gt⟩:=kc
  have gt:=gt.ext lj
  refine dk G G (aB (mv 1 G (aR (cF (aK (aH (aH ?_)))))))
  by_cases bc:m=1
  ·refine aJ (mv 1 G (aN G G G true (C2 bc) (aA (bB G (sr (pu (v:= .agg #[F0,S0]) G ?_))))))
   have ez:=(ai.ext o)
   refine so a8 ez [F0,S0] E bj G G G G fun _ fy jp f=>(aA (bD (cT (bC [.agg #[F0,S0]] G ⟨⟨_,rfl,aW a8 fy [F0,S0] G (bq G) rfl⟩,Fo⟩ ?_))))
   exact⟨_,O8 bc,_,rfl,⟨_,_,_,_,rfl,((Zr.zero (w:=kw) (base:=w.heap.size)).updT ez jp)⟩,f⟩
  ·refine aJ (mv 1 G (aN G G G false (C3 bc) (aA (aV G (b8 (aK (aH ?_)))))))
   refine cU bR 3 [] [Is (J sa Aa na ca),ZR w.heap.size (1),Is (v4 (bN x 1))] [[],[],[0,1]] [[],[],[0,1],[0,1,2]] rfl
    (aF G G (aC G G ?_) (aF G G (aC G G ?_) (aF G G (aC G G ?_) cE))) ?_
   ·exact fun _ jw=>aB (lo a8 (ba.ext (e8.t (Z.t (o.t jw)))) (O sa Aa na ca) G G G (aE G aD G))
   ·intro jj ki
    have f:=E.trans ki
    refine aB (cl (vs:= []) f (mM (w:=jj) f.size) G (by kernel_rfl) fun _ _ ju kj cj=>?_)
    obtain⟨_,_,_,_,rfl,jy⟩:=ju
    exact aE G kj ⟨_,_,_,_,rfl,jy⟩
   ·intro _ jm
    have f:=E.trans jm
    refine dk G G (aO G G fun _ _ ji _ lh=>?_)
    obtain⟨ky,kq,ko,kz,rfl,dw⟩:=ji
    have dw:=dw.ext lh
    refine aB (cl (vs:= [J sa Aa na ca,J ky kq ko kz]) f (uP (hx.ext f) (aL la G) dw.zi (dw.le (a6 (show ln 1≤1 by decide+kernel) (by decide)))) G (by kernel_rfl) fun _ _ kk lp cj=>?_)
    obtain rfl:=kk
    exact aE G lp rfl
   ·intro jv D
    have f:=E.trans D
    refine dk G G (aO G G fun _ _ ia _ ib=>?_)
    obtain⟨_,_,_,_,rfl,ei⟩:=ia
    have ei:=ei.ext ib
    refine dk G G (aB (mv 1 G (aR (cF (aK (aH (aH ?_)))))))
    by_cases dt:x=1
    ·refine aJ (mv 1 G (aN G G G true (C2 dt) (aA (bB G (sr (cl (vs:= []) f (mM (w:=jv) f.size) G (by kernel_rfl) fun _ _ iq fp cj=>?_))))))
     obtain⟨bo,dn,cp,cm,rfl,iu⟩:=iq
     have cx:=(ai.ext (o.t (D.t fp)))
     refine so a8 cx (O bo dn cp cm) cj bj G G G G fun _ fi ij fm=>(aA (bD (cT (bC [J bo dn cp cm] G ⟨⟨_,rfl,aW a8 fi (O bo dn cp cm) G (bq G) rfl⟩,Fo⟩ ?_))))
     exact⟨_,O7 dt h0 bc,_,rfl,⟨_,_,_,_,rfl,(iu.updT cx ij)⟩,fm⟩
    ·have fj:1<x:=O4 h1 dt bc h3 h0
     refine aJ (mv 1 G (aN G G G false (C3 dt) (aA (aV G (b8 (aK (sr (lo a8 (dv.ext (Z.t (o.t D))) (O sb Ab nb cb) G G G (lo a8 (ba.ext (e8.t (Z.t (o.t D)))) (O sa Aa na ca) G G G ?_)))))))))
     have jg:ln (m%x)≤1073741824:=a6 (bO (show x≠0 by omega)) Lx
     refine cl (vs:= [J sb Ab nb cb,J sa Aa na ca]) f (k8 f.size (hm.ext f) (aL lb G) (hx.ext f) (aL la G) (show x≠0 by omega)) G (by kernel_rfl) fun _ _ fz H cj=>?_
     obtain⟨_,_,rfl,⟨aq,ag,am,ah,rfl,ej⟩,rfl⟩:=fz
     refine mv 1 G (pu (v:= J aq ag am ah) G (pu (v:= v4 0) G (bF [F0,S0] cj (ai.ext (o.t (D.t H))).lt (fun _=>by kernel_rfl) G fun _ _ dg fh _ I fm=>(so a8 dg (O aq ag am ah) fm fh G G G G fun _ cg L fa=>(mv 1 G (aA (sr (lo a8 cg (O aq ag am ah) G G G (lo a8 ((ba.ext (e8.t (Z.t (o.t (D.t (H.t I)))))).vN L) (O sa Aa na ca) G G G (eL G G (vs:= [J aq ag am ah,J sa Aa na ca]) (by kernel_rfl) (by decide) (ih _ _ _ _ _ _ _ _ _ _ _ _ (O5 fj) fa.size ((ej.ext I).updT dg L).zi (ej.le (aL jg G)) (hx.ext fa) (aL la G) (by omega) (m7 _ (by omega)) (rF _ (by omega)) (O6 h3)) ?_))))))))))
     rintro _ _ ⟨p,ae,_,rfl,gj,W⟩
     have dy:ln (p)≤1073741824:=a6 (iA (y:=x) (by have:=ae.lo;have:=ae.hi;omega)) Lx
     refine eM ?_
     have jq:=fa.trans W
     obtain⟨bm,ck,bu,co,rfl,ey⟩:=gj
     refine bF [F0,S0] jq (cg.ext W).lt (fun _=>by kernel_rfl) G fun _ _ bt fb _ X ig=>(so a8 bt (O bm ck bu co) ig fb G G G G fun _ cu aa dr=>(aA (sr (lo a8 ((((ba.ext (e8.t (Z.t (o.t (D.t (H.t I)))))).vN L).ext (W.t X)).vN aa) (O sa Aa na ca) G G G (lo a8 cu (O bm ck bu co) G G G ?_)))))
     have dx:ln (x-p)≤1073741825:=a6 (gG Lx dy) (by decide)
     refine cl (vs:= [J sa Aa na ca,J bm ck bu co]) dr (sC dr.size (hx.ext dr) (aL la G) ((ey.ext X).updT bt aa).zi (ey.le (aL dy G))) G (by kernel_rfl) fun _ _ gi ar ie=>?_
     obtain⟨df,dd,cy,bf,rfl,ee⟩:=gi
     refine bF [F0,S0] ie (cu.ext ar).lt (fun _=>by kernel_rfl) G fun _ _ bv fg _ ao gb=>(so a8 bv (O df dd cy bf) gb fg G G G G fun _ ch ak bp=>(aA (sr (lo a8 ((((((dv.ext (Z.t (o.t (D.t (H.t I))))).vN L).ext (W.t X)).vN aa).ext (ar.t ao)).vN ak) (O sb Ab nb cb) G G G (lo a8 ch (O df dd cy bf) G G G ?_)))))
     have cn:ln (m*(x-p))≤2147483649:=a6 (dR Lm dx) (by decide)
     refine cl (vs:= [J sb Ab nb cb,J df dd cy bf]) bp (k9 bp.size (hm.ext bp) (aL lb G) ((ee.ext ao).updT bv ak).zi (ee.le (aL dx G))) G (by kernel_rfl) fun _ _ ix dh ge=>?_
     obtain⟨az,au,an,aw,rfl,ew⟩:=ix
     refine bF [F0,S0] ge (ch.ext dh).lt (fun _=>by kernel_rfl) G fun _ _ da dl _ bz ga=>(so a8 da (O az au an aw) ga dl G G G G fun _ cz dm dc=>(aA (aH ?_)))
     have ep:ln ((m*(x-p))+1)≤2147483650:=a6 (gO cn (show ln 1≤1 by decide+kernel)) (by decide)
     refine cU bR 3 [] [Is (J az au an aw),ZR w.heap.size (1),ZR w.heap.size ((m*(x-p))+1)] [[],[],[0,1]] [[],[],[0,1],[0,1,2]] rfl
      (aF G G (aC G G ?_) (aF G G (aC G G ?_) (aF G G (aC G G ?_) cE))) ?_
     ·exact fun _ fq=>aB (lo a8 (cz.ext fq) (O az au an aw) G G G (aE G aD G))
     ·intro iw ik
      have q:=dc.trans ik
      refine aB (cl (vs:= []) q (mM (w:=iw) q.size) G (by kernel_rfl) fun _ _ gg jc Y=>?_)
      obtain⟨_,_,_,_,rfl,gy⟩:=gg
      exact aE G jc ⟨_,_,_,_,rfl,gy⟩
     ·intro _ eh
      have q:=dc.trans eh
      refine dk G G (aO G G fun _ _ jh _ ja=>?_)
      obtain⟨fv,iz,fo,ft,rfl,aj⟩:=jh
      have aj:=aj.ext ja
      refine aB ?_
      have lv:ln ((m*(x-p))+1)≤2147483650:=a6 (gO cn (show ln 1≤1 by decide+kernel)) (by decide)
      refine cl (vs:= [J az au an aw,J fv iz fo ft]) q (qF q.size (((ew.ext bz).updT da dm).ext eh).zi (ew.le (aL cn G)) aj.zi (aj.le (a6 (show ln 1≤1 by decide+kernel) (by decide)))) G (by kernel_rfl) fun _ _ gx go Y=>?_
      obtain⟨_,_,_,_,rfl,je⟩:=gx
      exact aE G go ⟨_,_,_,_,rfl,je⟩
     ·intro _ av
      have q:=dc.trans av
      refine dk G G (aO G G fun _ _ il _ fx=>?_)
      obtain⟨_,_,_,_,rfl,dz⟩:=il
      have dz:=dz.ext fx
      refine aO G G fun _ _ iy _ jf=>?_
      obtain⟨cv,ct,bg,bd,rfl,ab⟩:=iy
      have ab:=ab.ext jf
      refine aB ?_
      have br:=(cz.ext av)
      refine so a8 br (O cv ct bg bd) q dl G G G G fun _ bi ci Y=>(aR (cF (aK (sr (lo a8 bi (O cv ct bg bd) G G G (lo a8 ((((((((((ba.ext (e8.t (Z.t (o.t (D.t (H.t I)))))).vN L).ext (W.t X)).vN aa).ext (ar.t ao)).vN ak).ext (dh.t bz)).vN dm).ext av).vN ci) (O sa Aa na ca) G G G ?_))))))
      have ma:ln (((m*(x-p))+1).tdiv x)≤2147483650:=a6 (fC _ _) ep
      refine cl (vs:= [J cv ct bg bd,J sa Aa na ca]) Y (nP Y.size (ab.updT br ci).zi (ab.le (aL ep G)) (hx.ext Y) (aL la G) (show x≠0 by omega) (EH fj (by omega) ae).1) G (by kernel_rfl) fun _ _ jd ef gf=>?_
      obtain⟨_,_,rfl,⟨F,M,V,U,rfl,gk⟩,rfl⟩:=jd
      refine mv 1 G (pu (v:= J F M V U) G (pu (v:= v4 0) G (bF [F0,S0] gf (bi.ext ef).lt (fun _=>by kernel_rfl) G fun _ _ de fk _ eg io=>(so a8 de (O F M V U) io fk G G G G fun _ fd el ip=>(mv 1 G (aA (sr (lo a8 fd (O F M V U) G G G ?_))))))))
      have bh:=((((((((((((ai.ext (o.t (D.t (H.t I)))).vN L).ext (W.t X)).vN aa).ext (ar.t ao)).vN ak).ext (dh.t bz)).vN dm).ext av).vN ci).ext (ef.t eg)).vN el)
      refine so a8 bh (O F M V U) ip bj G G G G fun _ fc jb ir=>(aA (bD (bC [J F M V U] G ⟨⟨_,rfl,aW a8 fc (O F M V U) G (bq G) rfl⟩,Fo⟩ ?_)))
      exact⟨_,(EH fj (by omega) ae).2,_,rfl,⟨_,_,_,_,rfl,(((gk.ext eg).updT de el).updT bh jb)⟩,ir⟩
theorem EG:∀N,I1 N
 | 0=>fun _ _ _ _ _ _ _ _ _ _ _ _ h=>by omega
 | N+1=>fun w b sa Aa na ca x sb Ab nb cb m h hb hx la hm lb h0 h1 h2 h3=>P7 hb hx la hm lb h0 h1 h2 h3 (fun w b sa Aa na ca x' sb Ab nb cb m h'=>EG N w b sa Aa na ca x' sb Ab nb cb m (by omega))
theorem F1 {nb:Nat}(hb:b≤w.heap.size)(hx:Zi w sa Aa na ca x)(la:na≤1073741824)(hm:Zi w sb Ab nb cb m)(lb:nb≤1073741824)(h0:0<m)(h1:0≤x)(h2:x<m)(h3:Int.gcd x m=1):aQ aM 72 #[J sa Aa na ca,J sb Ab nb cb] w (fun e w'=>∃u,Iv x m u∧Gv w (ZR b u) e w'):=
 EG _ w b sa Aa na ca x sb Ab nb cb m (Nat.lt_succ_self _) hb hx la hm lb h0 h1 h2 h3
theorem PB {nb:Nat}(hb:b≤w.heap.size)(hx:Zi w sa Aa na ca x)(la:na≤1073741824)(hy:Zi w sb Ab nb cb y)(lb:nb≤1073741824):aQ aM 37 #[J sa Aa na ca,J sb Ab nb cb] w (Gv w (ZR b ((Int.lcm x y:Int)))):=by
 refine Calls.mono (R:=Gv w (ZR w.heap.size ((Int.lcm x y:Int)))) ?_ (Gv.imp (ZR.imp hb))
 have Lx:ln x≤1073741824:=a6 hx.ln la
 have Ly:ln y≤1073741824:=a6 hy.ln lb
 refine bP Tryz.func37 G (n:=28) G (bq G) (args:= [J sa Aa na ca,J sb Ab nb cb]) (bH [(0,J sa Aa na ca),(1,J sb Ab nb cb)] ⟨rfl,rfl,Fo⟩ (sr (bx (O sa Aa na ca) (Ext.refl w) G G G fun _ _ ar _ _ dh=>(d5 (O sb Ab nb cb) dh ar.lt G G G fun _ _ au _ _ e8 dd=>(bF [F0,S0] dd au.lt (fun _=>by kernel_rfl) G fun _ _ D ai _ X U=>(aA (sr (lo a8 (ar.ext (e8.t X)) (O sa Aa na ca) G G G (lo a8 (au.ext X) (O sb Ab nb cb) G G G ?_)))))))))
 have dg:ln ((Int.gcd x y:Int))≤1073741824:=a6 (fK _ _) (Nat.max_le.2 ⟨a6 Lx (by decide),a6 Ly (by decide)⟩)
 refine cl (vs:= [J sa Aa na ca,J sb Ab nb cb]) U (nO U.size (hx.ext U) (aL la G) (hy.ext U) (aL lb G)) G (by kernel_rfl) fun _ _ da F cy=>?_
 obtain⟨ba,bd,o,bf,rfl,aa⟩:=da
 refine bF [F0,S0] cy (D.ext F).lt (fun _=>by kernel_rfl) G fun cg _ q bz _ f dm=>(so a8 q (O ba bd o bf) dm bz G G G G fun cz p h H=>(aA (aH (aH ?_))))
 by_cases hg:(Int.gcd x y:Int)=0
 ·have bi:o=0:=by rw [(((aa.ext f).updT q h)).len,hg];rfl
  have hl:(0:Int)=(Int.lcm x y:Int):=by unfold Int.lcm Nat.lcm;have h1:Nat.gcd x.natAbs y.natAbs=0:=(by exact_mod_cast hg);rw [h1];simp
  refine aJ (pf cg 1 G (aP G G (bA cZ p G) (pu (v:= v4 o) G (aN G G G true (fS (by omega)) (aA (bB G (sr (pu (v:= .agg #[F0,S0]) G ?_))))))))
  have ag:=((D.ext (F.t f)).vN h)
  refine so a8 ag [F0,S0] H ai G G G G fun _ bt de aq=>(aA (bD (cT (bC [.agg #[F0,S0]] G ⟨⟨_,rfl,aW a8 bt [F0,S0] G (bq G) rfl⟩,Fo⟩ ?_))))
  exact⟨_,rfl,⟨_,_,_,_,rfl,(((Zr.zero (w:=cz) (base:=w.heap.size)).updT ag de)).cast (hl)⟩,aq⟩
 ·have bi:o≠0:=fun e=>hg (y3 (by rw [←(((aa.ext f).updT q h)).len,e]))
  refine aJ (pf cg 1 G (aP G G (bA cZ p G) (pu (v:= v4 o) G (aN G G G false (fT (by omega)) (aA (aV G (b8 (aK (sr (lo a8 ((ar.ext (e8.t (X.t (F.t f)))).vN h) (O sa Aa na ca) G G G (lo a8 ((au.ext (X.t (F.t f))).vN h) (O sb Ab nb cb) G G G ?_)))))))))))
  have ck:ln (x*y)≤2147483648:=a6 (dR Lx Ly) (by decide)
  refine cl (vs:= [J sa Aa na ca,J sb Ab nb cb]) H (k9 H.size (hx.ext H) (aL la G) (hy.ext H) (aL lb G)) G (by kernel_rfl) fun _ _ cv Y aq=>?_
  obtain⟨ao,ak,az,an,rfl,cp⟩:=cv
  refine bF [F0,S0] aq (p.ext Y).lt (fun _=>by kernel_rfl) G fun _ _ E co _ I ct=>(so a8 E (O ao ak az an) ct co G G G G fun _ ah V ci=>(aA (sr (lo a8 ah (O ao ak az an) G G G (lo a8 ((p.ext (Y.t I)).vN V) (O ba bd o bf) G G G ?_)))))
  have bo:ln ((x*y).tdiv (Int.gcd x y:Int))≤2147483648:=a6 (fC _ _) ck
  refine cl (vs:= [J ao ak az an,J ba bd o bf]) ci (nP ci.size ((cp.ext I).updT E V).zi (cp.le (aL ck G)) ((((aa.ext f).updT q h).ext (Y.t I)).updT E V).zi (aa.le (aL dg G)) hg (OQ x y)) G (by kernel_rfl) fun _ _ cx bh bv=>?_
  obtain⟨_,_,rfl,⟨Z,M,L,W,rfl,ch⟩,rfl⟩:=cx
  refine mv 1 G (pu (v:= J Z M L W) G (pu (v:= v4 0) G (bF [F0,S0] bv (ah.ext bh).lt (fun _=>by kernel_rfl) G fun _ _ ae cn _ br cm=>(so a8 ae (O Z M L W) cm cn G G G G fun _ bp cj ab=>(mv 1 G (aA (sr (lo a8 bp (O Z M L W) G G G ?_))))))))
  have dr:ln ((Int.natAbs ((x*y).tdiv (Int.gcd x y:Int)):Int))≤2147483648:=(by rw [fQ];exact bo)
  refine cl (vs:= [J Z M L W]) ab (mN ab.size ((ch.ext br).updT ae cj).zi (ch.le (aL bo G))) G (by kernel_rfl) fun _ _ dc cu bm=>?_
  obtain⟨bc,aw,av,am,rfl,dl⟩:=dc
  have aj:=(((((((D.ext (F.t f)).vN h).ext (Y.t I)).vN V).ext (bh.t br)).vN cj).ext cu)
  refine so a8 aj (O bc aw av am) bm ai G G G G fun _ bu df bj=>(aA (bD (bC [J bc aw av am] G ⟨⟨_,rfl,aW a8 bu (O bc aw av am) G (bq G) rfl⟩,Fo⟩ ?_)))
  exact⟨_,rfl,⟨_,_,_,_,rfl,((dl.updT aj df)).cast (NX hg)⟩,bj⟩
theorem F3 {nb:Nat}(hb:b≤w.heap.size)(hx:Zi w sa Aa na ca x)(la:na≤1073741824)(hy:Zi w sb Ab nb cb y)(lb:nb≤1073741824):aQ aM 38 #[J sa Aa na ca,J sb Ab nb cb] w (fun e w'=>∃u v,Bez x y u v∧Gv w (T3 (ZR b (Int.gcd x y:Int)) (ZR b u) (ZR b v)) e w'):=by
 refine Calls.mono (R:=fun e w'=>∃u v,Bez x y u v∧Gv w (T3 (ZR w.heap.size (Int.gcd x y:Int)) (ZR w.heap.size u) (ZR w.heap.size v)) e w') ?_ (fun e _ h=>by obtain⟨u,v,h1,h2⟩:=h;exact⟨u,v,h1,Gv.imp (T3.imp (ZR.imp hb) (ZR.imp hb) (ZR.imp hb)) _ _ h2⟩)
 have Lx:ln x≤1073741824:=a6 hx.ln la
 have Ly:ln y≤1073741824:=a6 hy.ln lb
 refine bP Tryz.func38 G (n:=73) G (bq G) (args:= [J sa Aa na ca,J sb Ab nb cb]) (bH [(0,J sa Aa na ca),(1,J sb Ab nb cb)] ⟨rfl,rfl,Fo⟩ (sr (bx (O sa Aa na ca) (Ext.refl w) G G G fun _ _ ib _ _ nk=>(d5 (O sb Ab nb cb) nk ib.lt G G G fun _ _ dv _ _ e8 od=>(bF [F0,S0] od dv.lt (fun _=>by kernel_rfl) G fun il _ jc dc _ ck np=>(bF [F0,S0] np jc.lt (fun _=>by kernel_rfl) G fun lv _ cz de _ br ny=>(bF [F0,S0] ny cz.lt (fun _=>by kernel_rfl) G fun mw _ df dl _ bd ir=>(aA (sr (lo a8 (ib.ext (e8.t (ck.t (br.t bd)))) (O sa Aa na ca) G G G (lo a8 (dv.ext (ck.t (br.t bd))) (O sb Ab nb cb) G G G ?_)))))))))))
 have iq:ln ((Int.gcd x y:Int))≤1073741824:=a6 (fK _ _) (Nat.max_le.2 ⟨a6 Lx (by decide),a6 Ly (by decide)⟩)
 refine cl (vs:= [J sa Aa na ca,J sb Ab nb cb]) ir (nO ir.size (hx.ext ir) (aL la G) (hy.ext ir) (aL lb G)) G (by kernel_rfl) fun _ _ nt aj nw=>?_
 obtain⟨H,F,p,I,rfl,bp⟩:=nt
 have bg:=(jc.ext (br.t (bd.t aj)))
 refine so a8 bg (O H F p I) nw dc G G G G fun _ ag o mr=>(aA (sr (lo a8 ((ib.ext (e8.t (ck.t (br.t (bd.t aj))))).vN o) (O sa Aa na ca) G G G (cl (vs:= [J sa Aa na ca]) mr (eN (hx.ext mr) (aL la G)) G (by kernel_rfl) fun _ jp oa f dt=>?_))))
 obtain rfl:=oa
 refine mv 1 G (aA (aH (aH ?_)))
 by_cases hg:(Int.gcd x y:Int)=0
 ·have mp:p=0:=by rw [(((bp.updT bg o).ext f)).len,hg];rfl
  refine aJ (pf il 1 G (aP G G (bA cZ (ag.ext f) G) (pu (v:= v4 p) G (aN G G G true (fS (by omega)) (aA (bB G (sr (pu (v:= .agg #[F0,S0]) G (pu (v:= .agg #[F0,S0]) G (pu (v:= .agg #[F0,S0]) G ?_))))))))))
  have fe:=(ag.ext f)
  refine so a8 fe [F0,S0] dt dc G G G G fun _ ko fq bo=>?_
  have fd:=((((cz.ext (bd.t aj)).vN o).ext f).vN fq)
  refine so a8 fd [F0,S0] bo de G G G G fun _ lp fw bz=>?_
  have dx:=(((((df.ext aj).vN o).ext f).vN fq).vN fw)
  refine so a8 dx [F0,S0] bz dl G G G G fun _ kt fz ci=>(aA (bD (cT (bC [.agg #[F0,S0],.agg #[F0,S0],.agg #[F0,S0]] G ⟨⟨_,rfl,aW a8 ((ko.vN fw).vN fz) [F0,S0] G (bq G) rfl⟩,⟨_,rfl,aW a8 (lp.vN fz) [F0,S0] G (bq G) rfl⟩,⟨_,rfl,aW a8 kt [F0,S0] G (bq G) rfl⟩,Fo⟩ ?_))))
  exact⟨_,_,(SX hg),_,rfl,⟨_,_,_,rfl,⟨_,_,_,_,rfl,(((((Zr.zero (w:=jp) (base:=w.heap.size)).updT fe fq).updT fd fw).updT dx fz)).cast hg.symm⟩,⟨_,_,_,_,rfl,((((Zr.zero (w:=jp) (base:=w.heap.size)).updT fe fq).updT fd fw).updT dx fz)⟩,⟨_,_,_,_,rfl,((((Zr.zero (w:=jp) (base:=w.heap.size)).updT fe fq).updT fd fw).updT dx fz)⟩⟩,ci⟩
 ·have mp:p≠0:=fun e=>hg (y3 (by rw [←(((bp.updT bg o).ext f)).len,e]))
  refine aJ (pf il 1 G (aP G G (bA cZ (ag.ext f) G) (pu (v:= v4 p) G (aN G G G false (fT (by omega)) (aA (aV G (b8 (aK (aH (aH ?_))))))))))
  by_cases h0:y=0
  ·have on:x≠0:=fun e=>hg (by rw [e,h0];rfl)
   by_cases lu:x<0
   ·refine aJ (lo a8 (((dv.ext (ck.t (br.t (bd.t aj)))).vN o).ext f) (O sb Ab nb cb) G G G (cl (vs:= [J sb Ab nb cb]) dt (eN (hy.ext dt) (aL lb G)) G (by kernel_rfl) fun _ _ ob ig bo=>?_))
    obtain rfl:=ob
    refine aN G G G true (iY h0) (aA (bB G (sr (lo a8 (ag.ext (f.t ig)) (O H F p I) G G G (mv 1 G (aN G G G true (tO lu) (fA G G (k:=1) (e:=36) [AI 1] (fun _=>by kernel_rfl) fun ip nu ji=>?_)))))))
    have nz:=O1.mk_ (x:=1) (b:=w.heap.size) ji bo.size
    have ge:=ji.ext
    have bz:=bo.trans ge
    have oc:=pY nz (by decide:1≤18446744073709551615) (by decide:1≠0)
    have nl:=oL (by decide:1≤18446744073709551615) (by decide:1≠0)
    refine pu (v:= .agg #[By,AT (some ⟨ip,0,none⟩) 1 1]) G (pu (v:= .agg #[F0,S0]) G ?_)
    have ey:=(ag.ext (f.t (ig.t ge)))
    refine so a8 ey (O H F p I) bz dc G G G G fun _ kk gj ci=>?_
    have ez:=((((cz.ext (bd.t aj)).vN o).ext (f.t (ig.t ge))).vN gj)
    refine so a8 ez [By,AT (some ⟨ip,0,none⟩) 1 1] ci de G G G G fun _ mu gf bv=>?_
    have eh:=(((((df.ext aj).vN o).ext (f.t (ig.t ge))).vN gj).vN gf)
    refine so a8 eh [F0,S0] bv dl G G G G fun _ mi ia dd=>(aA (bD (cT (bC [J H F p I,.agg #[By,AT (some ⟨ip,0,none⟩) 1 1],.agg #[F0,S0]] G ⟨⟨_,rfl,aW a8 ((kk.vN gf).vN ia) (O H F p I) G (bq G) rfl⟩,⟨_,rfl,aW a8 (mu.vN ia) [By,AT (some ⟨ip,0,none⟩) 1 1] G (bq G) rfl⟩,⟨_,rfl,aW a8 mi [F0,S0] G (bq G) rfl⟩,Fo⟩ ?_))))
    exact⟨_,_,(SW h0 lu),_,rfl,⟨_,_,_,rfl,⟨_,_,_,_,rfl,((((((bp.updT bg o).ext (f.t (ig.t ge))).updT ey gj).updT ez gf).updT eh ia)).cast rfl⟩,⟨_,_,_,_,rfl,((((H8 (by decide:1≠0) nl oc).updT ey gj).updT ez gf).updT eh ia)⟩,⟨_,_,_,_,rfl,((((Zr.zero (w:=nu) (base:=w.heap.size)).updT ey gj).updT ez gf).updT eh ia)⟩⟩,dd⟩
   ·refine aJ (lo a8 (((dv.ext (ck.t (br.t (bd.t aj)))).vN o).ext f) (O sb Ab nb cb) G G G (cl (vs:= [J sb Ab nb cb]) dt (eN (hy.ext dt) (aL lb G)) G (by kernel_rfl) fun _ _ nh gi bo=>?_))
    obtain rfl:=nh
    refine aN G G G true (iY h0) (aA (bB G (sr (lo a8 (ag.ext (f.t gi)) (O H F p I) G G G (mv 1 G (aN G G G false (pV (by omega)) (fA G G (k:=1) (e:=36) [AI 1] (fun _=>by kernel_rfl) fun io nx jj=>?_)))))))
    have nj:=O1.mk_ (x:=1) (b:=w.heap.size) jj bo.size
    have fo:=jj.ext
    have bz:=bo.trans fo
    have ni:=pY nj (by decide:1≤18446744073709551615) (by decide:1≠0)
    have ng:=oL (by decide:1≤18446744073709551615) (by decide:1≠0)
    refine pu (v:= .agg #[F0,AT (some ⟨io,0,none⟩) 1 1]) G (pu (v:= .agg #[F0,S0]) G ?_)
    have dy:=(ag.ext (f.t (gi.t fo)))
    refine so a8 dy (O H F p I) bz dc G G G G fun _ mn fm ci=>?_
    have eg:=((((cz.ext (bd.t aj)).vN o).ext (f.t (gi.t fo))).vN fm)
    refine so a8 eg [F0,AT (some ⟨io,0,none⟩) 1 1] ci de G G G G fun _ jt dm bv=>?_
    have cu:=(((((df.ext aj).vN o).ext (f.t (gi.t fo))).vN fm).vN dm)
    refine so a8 cu [F0,S0] bv dl G G G G fun _ jx dh dd=>(aA (bD (cT (bC [J H F p I,.agg #[F0,AT (some ⟨io,0,none⟩) 1 1],.agg #[F0,S0]] G ⟨⟨_,rfl,aW a8 ((mn.vN dm).vN dh) (O H F p I) G (bq G) rfl⟩,⟨_,rfl,aW a8 (jt.vN dh) [F0,AT (some ⟨io,0,none⟩) 1 1] G (bq G) rfl⟩,⟨_,rfl,aW a8 jx [F0,S0] G (bq G) rfl⟩,Fo⟩ ?_))))
    exact⟨_,_,(SU h0 (by omega)),_,rfl,⟨_,_,_,rfl,⟨_,_,_,_,rfl,((((((bp.updT bg o).ext (f.t (gi.t fo))).updT dy fm).updT eg dm).updT cu dh)).cast rfl⟩,⟨_,_,_,_,rfl,((((vM ng ni).updT dy fm).updT eg dm).updT cu dh)⟩,⟨_,_,_,_,rfl,((((Zr.zero (w:=nx) (base:=w.heap.size)).updT dy fm).updT eg dm).updT cu dh)⟩⟩,dd⟩
  ·have HE:=FJ x h0
   refine aJ (lo a8 (((dv.ext (ck.t (br.t (bd.t aj)))).vN o).ext f) (O sb Ab nb cb) G G G (cl (vs:= [J sb Ab nb cb]) dt (eN (hy.ext dt) (aL lb G)) G (by kernel_rfl) fun _ _ lm q bo=>?_))
   obtain rfl:=lm
   refine aN G G G false (fE h0) (aA (aV G (b8 (aK (sr (lo a8 (((ib.ext (e8.t (ck.t (br.t (bd.t aj))))).vN o).ext (f.t q)) (O sa Aa na ca) G G G (lo a8 (ag.ext (f.t q)) (O H F p I) G G G ?_)))))))
   have lh:ln (x.tdiv (Int.gcd x y:Int))≤1073741824:=a6 (fC _ _) Lx
   refine cl (vs:= [J sa Aa na ca,J H F p I]) bo (nP bo.size (hx.ext bo) (aL la G) ((bp.updT bg o).ext (f.t q)).zi (bp.le (aL iq G)) hg (ES x y)) G (by kernel_rfl) fun _ _ my W bz=>?_
   obtain⟨_,_,rfl,⟨fg,ei,el,dz,rfl,iy⟩,rfl⟩:=my
   refine mv 1 G (pu (v:= J fg ei el dz) G (pu (v:= v4 0) G (bF [F0,S0] bz (((df.ext aj).vN o).ext (f.t (q.t W))).lt (fun _=>by kernel_rfl) G fun _ _ bt ij _ M ci=>(so a8 bt (O fg ei el dz) ci ij G G G G fun _ du L bv=>(mv 1 G (aA (sr (lo a8 ((((dv.ext (ck.t (br.t (bd.t aj)))).vN o).ext (f.t (q.t (W.t M)))).vN L) (O sb Ab nb cb) G G G (lo a8 ((ag.ext (f.t (q.t (W.t M)))).vN L) (O H F p I) G G G ?_)))))))))
   have ix:ln (y.tdiv (Int.gcd x y:Int))≤1073741824:=a6 (fC _ _) Ly
   refine cl (vs:= [J sb Ab nb cb,J H F p I]) bv (nP bv.size (hy.ext bv) (aL lb G) (((bp.updT bg o).ext (f.t (q.t (W.t M)))).updT bt L).zi (bp.le (aL iq G)) hg (OR x y)) G (by kernel_rfl) fun _ _ lj aa dd=>?_
   obtain⟨_,_,rfl,⟨ep,fk,ee,ej,rfl,jf⟩,rfl⟩:=lj
   refine mv 1 G (pu (v:= J ep fk ee ej) G (pu (v:= v4 0) G (bF [F0,S0] dd (du.ext aa).lt (fun _=>by kernel_rfl) G fun _ _ bu jw _ ab ky=>(so a8 bu (O ep fk ee ej) ky jw G G G G fun _ gt X jd=>(mv 1 G (aA (sr (lo a8 gt (O ep fk ee ej) G G G ?_))))))))
   have fb:ln ((Int.natAbs (y.tdiv (Int.gcd x y:Int)):Int))≤1073741824:=(by rw [fQ];exact ix)
   refine cl (vs:= [J ep fk ee ej]) jd (mN jd.size ((jf.ext ab).updT bu X).zi (jf.le (aL ix G))) G (by kernel_rfl) fun _ _ lg Y kx=>?_
   obtain⟨dg,dn,da,dr,rfl,fh⟩:=lg
   refine bF [F0,S0] kx (gt.ext Y).lt (fun _=>by kernel_rfl) G fun _ _ bh ju _ D mh=>(so a8 bh (O dg dn da dr) mh ju G G G G fun _ dw E jh=>(aA (sr (lo a8 ((((du.ext (aa.t ab)).vN X).ext (Y.t D)).vN E) (O fg ei el dz) G G G (lo a8 dw (O dg dn da dr) G G G ?_)))))
   have mm:ln ((x.tdiv (Int.gcd x y:Int))%(Int.natAbs (y.tdiv (Int.gcd x y:Int)):Int))≤1073741824:=a6 (bO (by have:=HE.2.2.1;omega)) fb
   refine cl (vs:= [J fg ei el dz,J dg dn da dr]) jh (k8 jh.size ((((((iy.ext M).updT bt L).ext (aa.t ab)).updT bu X).ext (Y.t D)).updT bh E).zi (iy.le (aL lh G)) ((fh.ext D).updT bh E).zi (fh.le (aL fb G)) (by have:=HE.2.2.1;omega)) G (by kernel_rfl) fun _ _ ll Z mj=>?_
   obtain⟨_,_,rfl,⟨fi,fc,fa,ew,rfl,iu⟩,rfl⟩:=ll
   refine mv 1 G (pu (v:= J fi fc fa ew) G (pu (v:= v4 0) G ?_))
   have ch:=(((((du.ext (aa.t ab)).vN X).ext (Y.t D)).vN E).ext Z)
   refine so a8 ch (O fi fc fa ew) mj ij G G G G fun _ kc V je=>(aA (sr (lo a8 kc (O fi fc fa ew) G G G (lo a8 ((dw.ext Z).vN V) (O dg dn da dr) G G G (eL G G (vs:= [J fi fc fa ew,J dg dn da dr]) (by kernel_rfl) (by decide) (F1 je.size (iu.updT ch V).zi (iu.le (aL mm G)) ((((fh.ext D).updT bh E).ext Z).updT ch V).zi (fh.le (aL fb G)) HE.2.2.1 (m7 _ (by have:=HE.2.2.1;omega)) (rF _ HE.2.2.1) HE.2.2.2) ?_)))))
   rintro _ _ ⟨fj,ef,_,rfl,mb,ak⟩
   have jm:ln (fj)≤1073741824:=a6 (iA (y:=(Int.natAbs (y.tdiv (Int.gcd x y:Int)):Int)) (by have:=ef.lo;have:=ef.hi;omega)) fb
   refine eM ?_
   have mf:=je.trans ak
   obtain⟨ar,ba,aw,an,rfl,gb⟩:=mb
   have cg:=(((((((((((cz.ext (bd.t aj)).vN o).ext (f.t (q.t (W.t M)))).vN L).ext (aa.t ab)).vN X).ext (Y.t D)).vN E).ext Z).vN V).ext ak)
   refine so a8 cg (O ar ba aw an) mf de G G G G fun _ cp am go=>(aA (sr (lo a8 ((((((((((((ib.ext (e8.t (ck.t (br.t (bd.t aj))))).vN o).ext (f.t (q.t (W.t M)))).vN L).ext (aa.t ab)).vN X).ext (Y.t D)).vN E).ext Z).vN V).ext ak).vN am) (O sa Aa na ca) G G G (lo a8 cp (O ar ba aw an) G G G ?_))))
   have jk:ln (x*fj)≤2147483648:=a6 (dR Lx jm) (by decide)
   refine cl (vs:= [J sa Aa na ca,J ar ba aw an]) go (k9 go.size (hx.ext go) (aL la G) (gb.updT cg am).zi (gb.le (aL jm G))) G (by kernel_rfl) fun _ _ kz ai mg=>?_
   obtain⟨fy,fx,ie,gg,rfl,ja⟩:=kz
   refine bF [F0,S0] mg (((((dw.ext Z).vN V).ext ak).vN am).ext ai).lt (fun _=>by kernel_rfl) G fun _ _ bm gx _ ah kw=>(so a8 bm (O fy fx ie gg) kw gx G G G G fun _ fp ae jb=>(aA (sr (lo a8 ((((((((((((ag.ext (f.t (q.t (W.t M)))).vN L).ext (aa.t ab)).vN X).ext (Y.t D)).vN E).ext Z).vN V).ext ak).vN am).ext (ai.t ah)).vN ae) (O H F p I) G G G (lo a8 fp (O fy fx ie gg) G G G ?_)))))
   have iw:ln ((Int.gcd x y:Int)-(x*fj))≤2147483649:=a6 (gG iq jk) (by decide)
   refine cl (vs:= [J H F p I,J fy fx ie gg]) jb (sC jb.size (((((((((((((bp.updT bg o).ext (f.t (q.t (W.t M)))).updT bt L).ext (aa.t ab)).updT bu X).ext (Y.t D)).updT bh E).ext Z).updT ch V).ext ak).updT cg am).ext (ai.t ah)).updT bm ae).zi (bp.le (aL iq G)) ((ja.ext ah).updT bm ae).zi (ja.le (aL jk G))) G (by kernel_rfl) fun _ _ kj az kq=>?_
   obtain⟨ga,ft,gy,gk,rfl,jg⟩:=kj
   have cv:=(fp.ext az)
   refine so a8 cv (O ga ft gy gk) kq gx G G G G fun _ kf ao fv=>(aA (sr (lo a8 kf (O ga ft gy gk) G G G (lo a8 ((((((((((((((((dv.ext (ck.t (br.t (bd.t aj)))).vN o).ext (f.t (q.t (W.t M)))).vN L).ext (aa.t ab)).vN X).ext (Y.t D)).vN E).ext Z).vN V).ext ak).vN am).ext (ai.t ah)).vN ae).ext az).vN ao) (O sb Ab nb cb) G G G ?_))))
   have oe:ln (((Int.gcd x y:Int)-(x*fj)).tdiv y)≤2147483649:=a6 (fC _ _) iw
   refine cl (vs:= [J ga ft gy gk,J sb Ab nb cb]) fv (nP fv.size (jg.updT cv ao).zi (jg.le (aL iw G)) (hy.ext fv) (aL lb G) h0 (FK h0 ef).2) G (by kernel_rfl) fun _ _ ma bj me=>?_
   obtain⟨_,_,rfl,⟨au,bc,av,aq,rfl,ml⟩,rfl⟩:=ma
   refine mv 1 G (pu (v:= J au bc av aq) G (pu (v:= v4 0) G ?_))
   have cy:=(((((((((((((((((df.ext aj).vN o).ext (f.t (q.t (W.t M)))).vN L).ext (aa.t ab)).vN X).ext (Y.t D)).vN E).ext Z).vN V).ext ak).vN am).ext (ai.t ah)).vN ae).ext az).vN ao).ext bj)
   refine so a8 cy (O au bc av aq) me dl G G G G fun jl ct bi kv=>(aA (aH (bH [(4,no il 0),(5,no lv 0),(6,no mw 0)] ⟨rfl,rfl,rfl,Fo⟩ ?_)))
   obtain⟨iz,hv,U⟩:∃v,v=jl.drew∧Ext jl v:=⟨_,rfl,aD.drew⟩
   have kn:=kv.trans U
   have cn:=(((((((((((((((((ag.ext (f.t (q.t (W.t M)))).vN L).ext (aa.t ab)).vN X).ext (Y.t D)).vN E).ext Z).vN V).ext ak).vN am).ext (ai.t ah)).vN ae).ext az).vN ao).ext bj).vN bi).ext U)
   obtain⟨md,jz,jo,bf,_⟩:=eV (P:=aM) (us:= (O H F p I)) (off:=0) a8 G cn (bq G) G (O H F p I) rfl
   have mt:=bf.ext kn dc
   have co:=((((((((cp.ext (ai.t ah)).vN ae).ext az).vN ao).ext bj).vN bi).ext U).vN bf)
   obtain⟨ku,jy,jr,cj,_⟩:=eV (P:=aM) (us:= (O ar ba aw an)) (off:=0) a8 G co (bq G) G (O ar ba aw an) rfl
   have mo:=cj.ext mt de
   have cx:=(((ct.ext U).vN bf).vN cj)
   obtain⟨mq,ki,jv,cm,_⟩:=eV (P:=aM) (us:= (O au bc av aq)) (off:=0) a8 G cx (bq G) G (O au bc av aq) rfl
   have mx:=cm.ext mo dl
   refine gI bR (w:=iz) [J H F p I,J ar ba aw an,J au bc av aq,undef,undef,undef] [iz,md,ku,mq] [3,4,5] [[],[],[],[0],[1],[2]] [[],[],[],[0],[0,1,3],[0,1,2,3,4]] [(0,0),(1,0),(1,1),(2,0),(2,1),(2,2),(3,0),(4,1),(5,2)] G hv ?_ ?_
   ·refine aX _ G G G G G (cB G (aW a8 (((((((((((((((((ag.ext (f.t (q.t (W.t M)))).vN L).ext (aa.t ab)).vN X).ext (Y.t D)).vN E).ext Z).vN V).ext ak).vN am).ext (ai.t ah)).vN ae).ext az).vN ao).ext bj).vN bi).ext U) (O H F p I) G (bq G) G)) (aX _ G G G G G (cB G (aW a8 (((((((cp.ext (ai.t ah)).vN ae).ext az).vN ao).ext bj).vN bi).ext U) (O ar ba aw an) G (bq G) G)) (aX _ G G G G G (cB G (aW a8 ((((((((cp.ext (ai.t ah)).vN ae).ext az).vN ao).ext bj).vN bi).ext U).vN bf) (O ar ba aw an) G (bq G) G)) (aX _ G G G G G (cB G (aW a8 (ct.ext U) (O au bc av aq) G (bq G) G)) (aX _ G G G G G (cB G (aW a8 ((ct.ext U).vN bf) (O au bc av aq) G (bq G) G)) (aX _ G G G G G (cB G (aW a8 (((ct.ext U).vN bf).vN cj) (O au bc av aq) G (bq G) G)) (f7 _ G G G G G (eR G G jz) (f7 _ G G G G G (eR G G jy) (f7 _ G G G G G (eR G G ki) ?_))))))))
    exact gH
   clear hv
   refine fU [(4,no il 0),(5,no lv 0),(6,no mw 0)] ⟨rfl,rfl,rfl,Fo⟩ (aK (bD (bC [J H F p I,J ar ba aw an,J au bc av aq] G ⟨⟨_,rfl,aW a8 ((jo.vN cj).vN cm) (O H F p I) G (bq G) rfl⟩,⟨_,rfl,aW a8 (jr.vN cm) (O ar ba aw an) G (bq G) rfl⟩,⟨_,rfl,aW a8 jv (O au bc av aq) G (bq G) rfl⟩,Fo⟩ ?_)))
   exact⟨_,_,(FK h0 ef).1,_,rfl,⟨_,_,_,rfl,⟨_,_,_,_,rfl,((((((((((((((((((((((bp.updT bg o).ext (f.t (q.t (W.t M)))).updT bt L).ext (aa.t ab)).updT bu X).ext (Y.t D)).updT bh E).ext Z).updT ch V).ext ak).updT cg am).ext (ai.t ah)).updT bm ae).ext az).updT cv ao).ext bj).updT cy bi).ext U).updT cn bf).updT co cj).updT cx cm)).cast rfl⟩,⟨_,_,_,_,rfl,(((((((((((gb.updT cg am).ext (ai.t ah)).updT bm ae).ext az).updT cv ao).ext bj).updT cy bi).ext U).updT cn bf).updT co cj).updT cx cm)⟩,⟨_,_,_,_,rfl,(((((ml.updT cy bi).ext U).updT cn bf).updT co cj).updT cx cm)⟩⟩,mx⟩
theorem PC {nb:Nat}(hb:b≤w.heap.size)(hx:Zi w sa Aa na ca x)(la:na≤1073741824)(hy:Zi w sb Ab nb cb y)(lb:nb≤1073741824)(h0:y=0):aQ aM 40 #[J sa Aa na ca,J sb Ab nb cb] w (Gv w (T2 (ZR b (0)) (Is (v4 4)))):=by
 refine Calls.mono (R:=Gv w (T2 (ZR w.heap.size (0)) (Is (v4 4)))) ?_ (Gv.imp (T2.imp (ZR.imp hb) Is.imp))
 have Lx:ln x≤1073741824:=a6 hx.ln la
 have Ly:ln y≤1073741824:=a6 hy.ln lb
 refine bP Tryz.func40 G (n:=35) G (bq G) (args:= [J sa Aa na ca,J sb Ab nb cb]) (bH [(0,J sa Aa na ca),(1,J sb Ab nb cb)] ⟨rfl,rfl,Fo⟩ (sr (bx (O sa Aa na ca) (Ext.refl w) G G G fun _ _ H _ _ F=>(d5 (O sb Ab nb cb) F H.lt G G G fun _ _ p _ _ _ I=>(bF [F0,S0] I p.lt (fun _=>by kernel_rfl) G fun _ _ h q _ M o=>(mv 1 G (aA (aH (sr (lo a8 (p.ext M) (O sb Ab nb cb) G G G (cl (vs:= [J sb Ab nb cb]) o (eN (hy.ext o) (aL lb G)) G (by kernel_rfl) fun _ L E X U=>?_)))))))))))
 obtain rfl:=E
 refine aN G G G true (iY h0) (aA (bB G (sr (pu (v:= .agg #[F0,S0]) G ?_))))
 have f:=(h.ext X)
 refine so a8 f [F0,S0] U q G G G G fun _ D V W=>(mv 1 G (aA (bD (cT (bC [.agg #[F0,S0],v4 4] G ⟨⟨_,rfl,aW a8 D [F0,S0] G (bq G) rfl⟩,rfl,Fo⟩ ?_)))))
 exact⟨_,rfl,⟨_,_,rfl,⟨_,_,_,_,rfl,((Zr.zero (w:=L) (base:=w.heap.size)).updT f V)⟩,rfl⟩,W⟩
theorem PD {nb:Nat}(hb:b≤w.heap.size)(hx:Zi w sa Aa na ca x)(la:na≤1073741824)(hy:Zi w sb Ab nb cb y)(lb:nb≤1073741824)(h0:y≠0)(hg:(Int.gcd x y:Int)≠1):aQ aM 40 #[J sa Aa na ca,J sb Ab nb cb] w (Gv w (T2 (ZR b (0)) (Is (v4 6)))):=by
 refine Calls.mono (R:=Gv w (T2 (ZR w.heap.size (0)) (Is (v4 6)))) ?_ (Gv.imp (T2.imp (ZR.imp hb) Is.imp))
 have Lx:ln x≤1073741824:=a6 hx.ln la
 have Ly:ln y≤1073741824:=a6 hy.ln lb
 refine bP Tryz.func40 G (n:=35) G (bq G) (args:= [J sa Aa na ca,J sb Ab nb cb]) (bH [(0,J sa Aa na ca),(1,J sb Ab nb cb)] ⟨rfl,rfl,Fo⟩ (sr (bx (O sa Aa na ca) (Ext.refl w) G G G fun _ _ ah _ _ bi=>(d5 (O sb Ab nb cb) bi ah.lt G G G fun _ _ U _ _ e8 bc=>(bF [F0,S0] bc U.lt (fun _=>by kernel_rfl) G fun _ _ H am _ V Y=>(mv 1 G (aA (aH (sr (lo a8 (U.ext V) (O sb Ab nb cb) G G G (cl (vs:= [J sb Ab nb cb]) Y (eN (hy.ext Y) (aL lb G)) G (by kernel_rfl) fun _ _ aw o p=>?_)))))))))))
 obtain rfl:=aw
 refine aN G G G false (fE h0) (aA (aV G (b8 (aK (sr (lo a8 (ah.ext (e8.t (V.t o))) (O sa Aa na ca) G G G (lo a8 (U.ext (V.t o)) (O sb Ab nb cb) G G G ?_)))))))
 have bm:ln ((Int.gcd x y:Int))≤1073741824:=a6 (fK _ _) (Nat.max_le.2 ⟨a6 Lx (by decide),a6 Ly (by decide)⟩)
 refine cl (vs:= [J sa Aa na ca,J sb Ab nb cb]) p (nO p.size (hx.ext p) (aL la G) (hy.ext p) (aL lb G)) G (by kernel_rfl) fun _ _ bo ab bv=>?_
 obtain⟨h,F,D,E,rfl,aj⟩:=bo
 refine bF [F0,S0] bv (H.ext (o.t ab)).lt (fun _=>by kernel_rfl) G fun _ _ L an _ ai bu=>(so a8 L (O h F D E) bu an G G G G fun _ X ae M=>(aA (aH ?_)))
 refine cU bR 3 [] [Is (J h F D E),ZR w.heap.size (1),Is (v4 (bN (Int.gcd x y:Int) 1))] [[],[],[0,1]] [[],[],[0,1],[0,1,2]] rfl
  (aF G G (aC G G ?_) (aF G G (aC G G ?_) (aF G G (aC G G ?_) cE))) ?_
 ·exact fun _ ao=>aB (lo a8 (X.ext ao) (O h F D E) G G G (aE G aD G))
 ·intro bt bp
  have f:=M.trans bp
  refine aB (cl (vs:= []) f (mM (w:=bt) f.size) G (by kernel_rfl) fun _ _ bz bh W=>?_)
  obtain⟨_,_,_,_,rfl,az⟩:=bz
  exact aE G bh ⟨_,_,_,_,rfl,az⟩
 ·intro _ ak
  have f:=M.trans ak
  refine dk G G (aO G G fun _ _ aq _ bg=>?_)
  obtain⟨cg,ar,av,bf,rfl,q⟩:=aq
  have q:=q.ext bg
  refine aB (cl (vs:= [J h F D E,J cg ar av bf]) f (uP (((aj.ext ai).updT L ae).ext ak).zi (aj.le (aL bm G)) q.zi (q.le (a6 (show ln 1≤1 by decide+kernel) (by decide)))) G (by kernel_rfl) fun _ _ br bd W=>?_)
  obtain rfl:=br
  exact aE G bd rfl
 ·intro bj Z
  have f:=M.trans Z
  refine dk G G (aO G G fun _ _ ch _ au=>?_)
  obtain⟨_,_,_,_,rfl,ag⟩:=ch
  have ag:=ag.ext au
  refine dk G G (aB (mv 1 G (aR (cF (aK (aH (sr (mv 1 G (aN G G G true (L6 hg) (aA (bB G (sr (pu (v:= .agg #[F0,S0]) G ?_)))))))))))))
  have I:=(((H.ext (o.t (ab.t ai))).vN ae).ext Z)
  refine so a8 I [F0,S0] f am G G G G fun _ aa ba W=>(mv 1 G (aA (bD (cT (bC [.agg #[F0,S0],v4 6] G ⟨⟨_,rfl,aW a8 aa [F0,S0] G (bq G) rfl⟩,rfl,Fo⟩ ?_)))))
  exact⟨_,rfl,⟨_,_,rfl,⟨_,_,_,_,rfl,((Zr.zero (w:=bj) (base:=w.heap.size)).updT I ba)⟩,rfl⟩,W⟩
theorem F2 {nb:Nat}(hb:b≤w.heap.size)(hx:Zi w sa Aa na ca x)(la:na≤1073741824)(hy:Zi w sb Ab nb cb y)(lb:nb≤1073741824)(h0:y≠0)(hg:(Int.gcd x y:Int)=1):aQ aM 40 #[J sa Aa na ca,J sb Ab nb cb] w (fun e w'=>∃u v,Bez x y u v∧Gv w (T2 (ZR b u) (Is (v4 0))) e w'):=by
 refine Calls.mono (R:=fun e w'=>∃u v,Bez x y u v∧Gv w (T2 (ZR w.heap.size u) (Is (v4 0))) e w') ?_ (fun e _ h=>by obtain⟨u,v,h1,h2⟩:=h;exact⟨u,v,h1,Gv.imp (T2.imp (ZR.imp hb) Is.imp) _ _ h2⟩)
 have Lx:ln x≤1073741824:=a6 hx.ln la
 have Ly:ln y≤1073741824:=a6 hy.ln lb
 refine bP Tryz.func40 G (n:=35) G (bq G) (args:= [J sa Aa na ca,J sb Ab nb cb]) (bH [(0,J sa Aa na ca),(1,J sb Ab nb cb)] ⟨rfl,rfl,Fo⟩ (sr (bx (O sa Aa na ca) (Ext.refl w) G G G fun _ _ cg _ _ dr=>(d5 (O sb Ab nb cb) dr cg.lt G G G fun _ _ ba _ _ e8 eh=>(bF [F0,S0] eh ba.lt (fun _=>by kernel_rfl) G fun _ _ bj co _ ae cy=>(mv 1 G (aA (aH (sr (lo a8 (ba.ext ae) (O sb Ab nb cb) G G G (cl (vs:= [J sb Ab nb cb]) cy (eN (hy.ext cy) (aL lb G)) G (by kernel_rfl) fun _ _ ef I an=>?_)))))))))))
 obtain rfl:=ef
 refine aN G G G false (fE h0) (aA (aV G (b8 (aK (sr (lo a8 (cg.ext (e8.t (ae.t I))) (O sa Aa na ca) G G G (lo a8 (ba.ext (ae.t I)) (O sb Ab nb cb) G G G ?_)))))))
 have ep:ln ((Int.gcd x y:Int))≤1073741824:=a6 (fK _ _) (Nat.max_le.2 ⟨a6 Lx (by decide),a6 Ly (by decide)⟩)
 refine cl (vs:= [J sa Aa na ca,J sb Ab nb cb]) an (nO an.size (hx.ext an) (aL la G) (hy.ext an) (aL lb G)) G (by kernel_rfl) fun _ _ ew am dv=>?_
 obtain⟨ak,bg,aq,bd,rfl,cn⟩:=ew
 refine bF [F0,S0] dv (bj.ext (I.t am)).lt (fun _=>by kernel_rfl) G fun _ _ bi cp _ ao ez=>(so a8 bi (O ak bg aq bd) ez cp G G G G fun _ bh aw bz=>(aA (aH ?_)))
 refine cU bR 3 [] [Is (J ak bg aq bd),ZR w.heap.size (1),Is (v4 (bN (Int.gcd x y:Int) 1))] [[],[],[0,1]] [[],[],[0,1],[0,1,2]] rfl
  (aF G G (aC G G ?_) (aF G G (aC G G ?_) (aF G G (aC G G ?_) cE))) ?_
 ·exact fun _ df=>aB (lo a8 (bh.ext df) (O ak bg aq bd) G G G (aE G aD G))
 ·intro du dt
  have f:=bz.trans dt
  refine aB (cl (vs:= []) f (mM (w:=du) f.size) G (by kernel_rfl) fun _ _ dw dn bt=>?_)
  obtain⟨_,_,_,_,rfl,eg⟩:=dw
  exact aE G dn ⟨_,_,_,_,rfl,eg⟩
 ·intro _ dd
  have f:=bz.trans dd
  refine dk G G (aO G G fun _ _ dg _ el=>?_)
  obtain⟨fa,dy,dz,ej,rfl,bc⟩:=dg
  have bc:=bc.ext el
  refine aB (cl (vs:= [J ak bg aq bd,J fa dy dz ej]) f (uP (((cn.ext ao).updT bi aw).ext dd).zi (cn.le (aL ep G)) bc.zi (bc.le (a6 (show ln 1≤1 by decide+kernel) (by decide)))) G (by kernel_rfl) fun _ _ ey ei bt=>?_)
  obtain rfl:=ey
  exact aE G ei rfl
 ·intro _ aa
  have f:=bz.trans aa
  refine dk G G (aO G G fun _ _ dx _ dm=>?_)
  obtain⟨_,_,_,_,rfl,da⟩:=dx
  have da:=da.ext dm
  refine dk G G (aB (mv 1 G (aR (cF (aK (aH (sr (mv 1 G (aN G G G false (L7 hg) (aA (aV G (b8 (aK ?_)))))))))))))
  refine sr (lo a8 (((ba.ext (ae.t (I.t (am.t ao)))).vN aw).ext aa) (O sb Ab nb cb) G G G ?_)
  have au:ln ((Int.natAbs y:Int))≤1073741824:=(by rw [fQ];exact Ly)
  refine cl (vs:= [J sb Ab nb cb]) f (mN f.size (hy.ext f) (aL lb G)) G (by kernel_rfl) fun _ _ de br bt=>?_
  obtain⟨ag,Z,U,L,rfl,av⟩:=de
  refine bF [F0,S0] bt (bh.ext (aa.t br)).lt (fun _=>by kernel_rfl) G fun _ _ X cj _ bf ck=>(so a8 X (O ag Z U L) ck cj G G G G fun _ Y ar ah=>(aA (sr (lo a8 ((((cg.ext (e8.t (ae.t (I.t (am.t ao))))).vN aw).ext (aa.t (br.t bf))).vN ar) (O sa Aa na ca) G G G (lo a8 Y (O ag Z U L) G G G ?_)))))
  have dl:ln (x%(Int.natAbs y:Int))≤1073741824:=a6 (bO (show (y.natAbs:Int)≠0 by omega)) au
  refine cl (vs:= [J sa Aa na ca,J ag Z U L]) ah (k8 ah.size (hx.ext ah) (aL la G) ((av.ext bf).updT X ar).zi (av.le (aL au G)) (show (y.natAbs:Int)≠0 by omega)) G (by kernel_rfl) fun _ _ dh az ci=>?_
  obtain⟨_,_,rfl,⟨E,q,F,p,rfl,bp⟩,rfl⟩:=dh
  refine mv 1 G (pu (v:= J E q F p) G (pu (v:= v4 0) G (bF [F0,S0] ci (Y.ext az).lt (fun _=>by kernel_rfl) G fun _ _ o ch _ D cv=>(so a8 o (O E q F p) cv ch G G G G fun _ bv H bm=>(mv 1 G (aA (sr (lo a8 bv (O E q F p) G G G (lo a8 ((Y.ext (az.t D)).vN H) (O ag Z U L) G G G (eL G G (vs:= [J E q F p,J ag Z U L]) (by kernel_rfl) (by decide) (F1 bm.size ((bp.ext D).updT o H).zi (bp.le (aL dl G)) ((((av.ext bf).updT X ar).ext (az.t D)).updT o H).zi (av.le (aL au G)) (by omega) (m7 _ (by omega)) (rF _ (by omega)) (EF hg)) ?_))))))))))
  rintro _ _ ⟨cm,ai,_,rfl,cz,bo⟩
  have fc:ln (cm)≤1073741824:=a6 (iA (y:=(Int.natAbs y:Int)) (by have:=ai.lo;have:=ai.hi;omega)) au
  refine eM ?_
  have cx:=bm.trans bo
  obtain⟨aj,ab,W,V,rfl,ct⟩:=cz
  have M:=(((((((bj.ext (I.t (am.t ao))).vN aw).ext (aa.t (br.t bf))).vN ar).ext (az.t D)).vN H).ext bo)
  refine so a8 M (O aj ab W V) cx co G G G G fun _ bu dc cu=>(mv 1 G (aA (bD (bC [J aj ab W V,I0] G ⟨⟨_,rfl,aW a8 bu (O aj ab W V) G (bq G) rfl⟩,rfl,Fo⟩ ?_))))
  obtain⟨vb,ee⟩:=SV h0 hg ai
  exact⟨_,vb,ee,_,rfl,⟨_,_,rfl,⟨_,_,_,_,rfl,(ct.updT M dc)⟩,rfl⟩,cu⟩
def Ld (K b:Nat)(P:Nat→Prop)(w:a7)(lb:Nat)(A:Option aG)(n cap:Nat)(zs:List Int):Prop:=
 ∃es,Own w lb 24 2 A n cap (gE es)∧es.length=n∧zs.length=n∧(∀i,i<n→(es.getD i ZC.zero).n≤K∧Zr w b (es.getD i ZC.zero).s (es.getD i ZC.zero).A (es.getD i ZC.zero).n (es.getD i ZC.zero).c (zs.getD i 0)∧∀p,(es.getD i ZC.zero).A=some p→P p.block)∧
  ∀i j,i<n→j<n→i≠j→∀p q,(es.getD i ZC.zero).A=some p→(es.getD j ZC.zero).A=some q→p.block≠q.block
section
variable {K b lb:Nat}{P P':Nat→Prop}{w w':a7}{A:Option aG}{n cap:Nat}{zs:List Int}
theorem Ld.lz (h:Ld K b P w lb A n cap zs):Lz none K b w lb A n cap zs:=by
 obtain⟨es,o,q,p,f,_⟩:=h
 exact⟨es,o,q,p,fun i hi=>⟨(f i hi).1,Or.inl (f i hi).2.1⟩⟩
theorem Ld.own (h:Ld K b P w lb A n cap zs):∃vs,Own w lb 24 2 A n cap vs:=h.lz.own
theorem Ld.block (h:Ld K b P w lb A n cap zs):∀a,A=some a→lb≤a.block∧a.block<w.heap.size:=h.lz.block
theorem Ld.ext (h:Ld K b P w lb A n cap zs)(x:Ext w w'):Ld K b P w' lb A n cap zs:=by
 obtain⟨es,o,q,p,f,D⟩:=h
 exact⟨es,o.ext x,q,p,fun i hi=>⟨(f i hi).1,(f i hi).2.1.ext x,(f i hi).2.2⟩,D⟩
theorem Ld.updT (h:Ld K b P w lb A n cap zs)(hb:Bk w g T us)(x:Upd g w w')(hne:∀p,A=some p→p.block≠g)(hT:36≠T:=by decide):Ld K b P w' lb A n cap zs:=by
 obtain⟨es,o,D,q,f,E⟩:=h
 exact⟨es,o.upd x hne,D,q,fun i hi=>⟨(f i hi).1,(f i hi).2.1.updT hb x hT,(f i hi).2.2⟩,E⟩
theorem Ld.nil (K b:Nat)(P:Nat→Prop)(w:a7)(lb:Nat):Ld K b P w lb none 0 0 []:=⟨[],Own.nil _ _ _ _,rfl,rfl,fun i hi=>by omega,fun i j hi=>by omega⟩
theorem Lz.ld0 (h:Lz none K b w lb A 0 cap []):Ld K b P w lb A 0 cap []:=by
 obtain⟨es,f,p,o,_⟩:=h
 exact⟨es,f,p,o,fun i hi=>by omega,fun i j hi=>by omega⟩
theorem Ld.mono {K' b' lb':Nat}(h:Ld K b P w lb A n cap zs)(hK:K≤K')(hb:b'≤b)(hl:lb'≤lb):Ld K' b' P w lb' A n cap zs:=by
 obtain⟨es,o,q,p,f,D⟩:=h
 exact⟨es,o.mono hl,q,p,fun i hi=>⟨a6 (f i hi).1 hK,(f i hi).2.1.mono hb,(f i hi).2.2⟩,D⟩
theorem Ld.imp (h:Ld K b P w lb A n cap zs)(hP:∀g,P g→P' g):Ld K b P' w lb A n cap zs:=by
 obtain⟨es,o,E,q,f,F⟩:=h
 exact⟨es,o,E,q,fun i hi=>⟨(f i hi).1,(f i hi).2.1,fun p D=>hP _ ((f i hi).2.2 p D)⟩,F⟩
theorem Ld.lt (h:Ld K b P w lb A n cap zs):Ld K b (fun g=>P g∧b≤g∧g<w.heap.size) w lb A n cap zs:=by
 obtain⟨es,q,E,D,f,F⟩:=h
 exact⟨es,q,E,D,fun i hi=>⟨(f i hi).1,(f i hi).2.1,fun p o=>⟨(f i hi).2.2 p o,(f i hi).2.1.own.block p o⟩⟩,F⟩
theorem Ld.at (h:Ld K b P w lb A n cap zs)(hi:i<n):∃p s B k c,A.map (·.add (i*2))=some p∧(∀w',Ext w w'→∀(P:Program) (T:TypeId),AggT P T 2→(loadVar T p).run P w'= .ok (J s B k c) w')∧k≤K∧El none b w ⟨s,B,k,c⟩ (zs.getD i 0):=h.lz.at hi
end
section
variable {Q:Exit→Act→a7→Prop}{N:Nat}{l:Fr}{w:a7}{ops:Array Oper}{rest:List Oper}{d:Nat}{ty:TypeId}{pos:String}{af:Array Edge}{gd:Option (Nat×Bool)}
theorem JG {P P':Nat→Prop}{x y:Operand}(hw:dG ops l gd=some true)(hx:bY l x=some (AT A n cap))(hy:bY l y=some (AT (some ⟨g,0,none⟩) 1 c))(h:Ld K b P w lb A n cap zs)(hlb:lb≤w.heap.size)(hb:Bk w g 24 (iX e))(he:Zr w b e.s e.A e.n e.c z)(hK:e.n≤K)(hP:∀g,P g→P' g)(hn:∀p,e.A=some p→P' p.block∧¬P p.block)(hm:n≤1099511627775)(hd:d<N)(k:∀A' cap' w',Ld K b P' w' lb A' (n+1) cap' (zs++ [z])→UpdO A w w'→sV w A A'→wl aM ops Q N rest ((d,AT A' (n+1) cap')::l) w'):wl aM ops Q N (⟨some d,.call {callee:= .builtin .append,args:= #[x,y],argTypes:= #[26,26]},ty,pos,af,gd⟩::rest) l w:=by
 obtain⟨es,I,W,V,E,Z⟩:=h
 refine mC hw hx hy d9 mJ G I hlb (iX e) G (fun j u hj=>?_) G (hn:=hd) fun A' cap' w' Y U hk=>k A' cap' w' ?_ U hk
 ·have H:j<(iX e).length:=(List.getElem?_eq_some_iff.1 hj).1
  rw [fL,eX,hb.cell H,bE,hj];rfl
 ·have L:(es++ [e]).getD n ZC.zero=e:=by rw [←W];exact s9
  have old:∀i,i<n→(es++ [e]).getD i ZC.zero=es.getD i ZC.zero:=fun i hi=>sA
  refine⟨es++ [e],by rw [wM];exact Y,by simp [W],by simp [V],fun i hi=>?_,fun i j hi hj M p q o D=>?_⟩
  ·by_cases f:i<n
   ·rw [old i f,sA]
    exact⟨(E i f).1,(E i f).2.1.updOT I U,fun p o=>hP _ ((E i f).2.2 p o)⟩
   ·obtain rfl:i=n:=by omega
    have X:(zs++ [z]).getD i 0=z:=by rw [←V];exact s9
    rw [L,X]
    exact⟨hK,he.updOT I U,fun p o=>(hn p o).1⟩
  ·by_cases f:i<n
   ·rw [old i f] at o
    by_cases F:j<n
    ·rw [old j F] at D;exact Z i j f F M p q o D
    ·obtain rfl:j=n:=by omega
     rw [L] at D
     exact fun e=>(hn q D).2 (e▸(E i f).2.2 p o)
   ·obtain rfl:i=n:=by omega
    rw [L] at o
    rw [old j (by omega)] at D
    exact fun e=>(hn p o).2 (e▸(E j (by omega)).2.2 q D)
theorem J6 {P P':Nat→Prop}{x y:Operand}(hw:dG ops l gd=some true)(hx:bY l x=some (.pointer (some p)))(hy:bY l y=some (J e.s e.A e.n e.c))(hp:A.map (·.add (i*2))=some p)(hi:i<n)(h:Ld K b P w lb A n cap zs)(he:Zr w b e.s e.A e.n e.c z)(hK:e.n≤K)(hP:∀g,P g→P' g)(hn:∀p,e.A=some p→P' p.block∧¬P p.block)(k:∀w',Ld K b P' w' lb A n cap (zs.set i z)→UpdO A w w'→wl aM ops Q N rest l w'):wl aM ops Q N (⟨none,.store 24 x y,ty,pos,af,gd⟩::rest) l w:=by
 obtain⟨es,Z,X,W,F,h5⟩:=h
 have h1':=Z
 rcases Z with⟨rfl,_⟩ | ⟨g,cs,rfl,hg,hk,hn',L,_,hv⟩
 ·cases hp
 ·have hp':p=⟨g,i*2,none⟩:=by
   injection hp with hp
   rw [←hp]
   show (⟨g,0,none⟩:aG).add (i*2)=_
   rw [fL,eX]
  subst hp'
  have ak:=eA 2 hn'
  have self:(es.set i e).getD i ZC.zero=e:=by simp [bE,X,hi]
  have oth:∀j,j≠i→(es.set i e).getD j ZC.zero=es.getD j ZC.zero:=fun j hj=>by simp [bE,lD hj]
  refine tG hw hx (us:=iX e) hy a8 G hk (by omega) G _ G fun w' U M hs=>k w' ⟨es.set i e,bW ⟨g,_,rfl,hg,U,hn',L,?_,?_⟩,by simp [X],by simp [W],fun j hj=>?_,fun a c ha Y E p' q o f=>?_⟩ M.updO
  ·unfold gF
   simp only [fH,dK,List.length_drop,iX,gD,List.length_nil]
   omega
  ·rw [←wK es i e (by omega),←hv]
   have ae:i*2+2≤n*2:=by omega
   have V:(iX e).length=2:=rfl
   unfold gF
   rw [V,List.take_append,List.take_append,List.take_take,List.take_take,fH,dK,gL (by omega:i*2≤cs.length),V,Nat.min_eq_right (by omega),gL (by omega)]
   congr 1
   ·congr 1
    exact List.take_of_length_le (by rw [V];omega)
   ·rw [List.drop_take]
  ·by_cases D:j=i
   ·subst D
    have e2:(zs.set j z).getD j 0=z:=by simp [bE,W,hj]
    rw [self,e2]
    exact⟨hK,he.updOT h1' M.updO,fun p hp=>(hn p hp).1⟩
   ·rw [oth j D,show (zs.set i z).getD j 0=zs.getD j 0 by simp [bE,lD D]]
    exact⟨(F j hj).1,(F j hj).2.1.updOT h1' M.updO,fun p hp=>hP _ ((F j hj).2.2 p hp)⟩
  ·by_cases I:a=i
   ·subst I
    rw [self] at o
    rw [oth c (lD E)] at f
    exact fun e=>(hn p' o).2 (e▸(F c Y).2.2 q f)
   ·rw [oth a I] at o
    by_cases H:c=i
    ·subst H
     rw [self] at f
     exact fun e=>(hn q f).2 (e▸(F a ha).2.2 p' o)
    ·rw [oth c H] at f;exact h5 a c ha Y E p' q o f
end
theorem Bez.ln_u (h:Bez x y u v)(hx:ln x≤N)(hy:ln y≤N):ln u≤N+1:=by
 by_cases f:y=0
 ·rw [(h.zero f).1]
  refine a6 (rY (x:=x.sign) ?_ ?_) (by omega) <;> (rcases Int.lt_trichotomy x 0 with h | h | h <;> simp [Int.sign_eq_neg_one_of_neg,Int.sign_eq_one_of_pos,h])
 ·refine a6 (iA (y:=y) ?_) (Nat.le_succ_of_le hy)
  have o:=h.lo f
  have D:=h.hi f
  have q:0<Int.gcd x y:=Int.gcd_pos_of_ne_zero_right x f
  have p:u*1≤u*(Int.gcd x y:Int):=Int.mul_le_mul_of_nonneg_left (by omega) o
  omega
theorem Bez.ln_v (h:Bez x y u v)(hx:ln x≤N)(hy:ln y≤N):ln v≤N+1:=by
 by_cases f:y=0
 ·rw [(h.zero f).2,DY];omega
 ·refine a6 (iA (y:=x.natAbs+1) ?_) (a6 (gO (a:=N) (b:=1) (by rw [fQ];exact hx) (by rw [xZ];exact aS _)) ?_)
  ·have o:=h.lo f
   have H:=h.hi f
   have F:0<Int.gcd x y:=Int.gcd_pos_of_ne_zero_right x f
   have e:=h.eq
   have I:u*1≤u*(Int.gcd x y:Int):=Int.mul_le_mul_of_nonneg_left (by omega) o
   have E:u.natAbs≤y.natAbs:=by omega
   have q:Int.gcd x y≤y.natAbs:=Nat.le_of_dvd (by omega) (Int.gcd_dvd_natAbs_right x y)
   have p:(y*v).natAbs≤(x.natAbs+1)*y.natAbs:=by
    have D:y*v=Int.gcd x y-x*u:=by omega
    have M:(x*u).natAbs≤x.natAbs*y.natAbs:=by rw [Int.natAbs_mul];exact Nat.mul_le_mul_left _ E
    rw [D,dV,Nat.one_mul]
    omega
   rw [Int.natAbs_mul,cM] at p
   have L:=Nat.le_of_mul_le_mul_right p (by omega)
   omega
  ·refine Nat.le_of_eq ?_
   have:1≤N:=by
    refine Nat.pos_of_ne_zero fun _=>f ?_
    have o:ln y=0:=by omega
    have:=kO.1 (show (wd y.natAbs).length=0 from o)
    omega
   omega
theorem QC (hx:Zi w sa Aa na ca x)(la:na≤17179869184)(h1:x=1):aQ aM 79 #[J sa Aa na ca] w (Gv w (Is (By))):=by
 have Lx:ln x≤17179869184:=a6 hx.ln la
 refine bP Tryz.func79 G (n:=7) G (bq G) (args:= [J sa Aa na ca]) (bH [(0,J sa Aa na ca)] ⟨rfl,Fo⟩ (sr (bx (O sa Aa na ca) (Ext.refl w) G G G fun _ _ F _ _ o=>(mv 1 G (aA (aH ?_))))))
 refine cU bR 4 [] [Is (J sa Aa na ca),ZR w.heap.size (1),Is (v4 (bN x 1)),Is (By)] [[],[],[0,1],[2]] [[],[],[0,1],[0,1,2],[0,1,2,3]] rfl
  (aF G G (aC G G ?_) (aF G G (aC G G ?_) (aF G G (aC G G ?_) (aF G G (aC G G ?_) cE)))) ?_
 ·exact fun _ e8=>aB (lo a8 (F.ext e8) (O sa Aa na ca) G G G (aE G aD G))
 ·intro _ I
  have f:=o.trans I
  refine aB (cl (vs:= [v4 1]) f (lS f.size (by decide) (by decide)) G (by kernel_rfl) fun _ _ M H W=>?_)
  obtain⟨_,_,_,_,rfl,D⟩:=M
  exact aE G H ⟨_,_,_,_,rfl,D⟩
 ·intro _ ag
  have f:=o.trans ag
  refine dk G G (aO G G fun _ _ Y _ ae=>?_)
  obtain⟨aa,L,V,U,rfl,h⟩:=Y
  have h:=h.ext ae
  refine aB (cl (vs:= [J sa Aa na ca,J aa L V U]) f (EX (hx.ext f) (aL la G) h.zi (h.le (a6 (show ln (1)≤1 by decide+kernel) (by decide)))) G (by kernel_rfl) fun _ _ ab X W=>?_)
  obtain rfl:=ab
  exact aE G X rfl
 ·exact fun _ _=>dk G G (aB (aN G G G true (iY h1) (aE G aD G)))
 ·intro _ E
  have f:=o.trans E
  refine dk G G (aO G G fun _ _ Z _ q=>?_)
  obtain⟨_,_,_,_,rfl,p⟩:=Z
  have p:=p.ext q
  refine dk G G (dk G G (aB (mv 1 G (aR (cF (aK (bD (bC [By] G ⟨rfl,Fo⟩ ?_))))))))
  exact⟨_,rfl,rfl,f⟩
theorem QD (hx:Zi w sa Aa na ca x)(la:na≤17179869184)(h1:x≠1):aQ aM 79 #[J sa Aa na ca] w (Gv w (Is (BY))):=by
 have Lx:ln x≤17179869184:=a6 hx.ln la
 refine bP Tryz.func79 G (n:=7) G (bq G) (args:= [J sa Aa na ca]) (bH [(0,J sa Aa na ca)] ⟨rfl,Fo⟩ (sr (bx (O sa Aa na ca) (Ext.refl w) G G G fun _ _ F _ _ o=>(mv 1 G (aA (aH ?_))))))
 refine cU bR 4 [] [Is (J sa Aa na ca),ZR w.heap.size (1),Is (v4 (bN x 1)),Is (BY)] [[],[],[0,1],[2]] [[],[],[0,1],[0,1,2],[0,1,2,3]] rfl
  (aF G G (aC G G ?_) (aF G G (aC G G ?_) (aF G G (aC G G ?_) (aF G G (aC G G ?_) cE)))) ?_
 ·exact fun _ e8=>aB (lo a8 (F.ext e8) (O sa Aa na ca) G G G (aE G aD G))
 ·intro _ I
  have f:=o.trans I
  refine aB (cl (vs:= [v4 1]) f (lS f.size (by decide) (by decide)) G (by kernel_rfl) fun _ _ M H W=>?_)
  obtain⟨_,_,_,_,rfl,D⟩:=M
  exact aE G H ⟨_,_,_,_,rfl,D⟩
 ·intro _ ag
  have f:=o.trans ag
  refine dk G G (aO G G fun _ _ Y _ ae=>?_)
  obtain⟨aa,L,V,U,rfl,h⟩:=Y
  have h:=h.ext ae
  refine aB (cl (vs:= [J sa Aa na ca,J aa L V U]) f (EX (hx.ext f) (aL la G) h.zi (h.le (a6 (show ln (1)≤1 by decide+kernel) (by decide)))) G (by kernel_rfl) fun _ _ ab X W=>?_)
  obtain rfl:=ab
  exact aE G X rfl
 ·exact fun _ _=>dk G G (aB (aN G G G false (fE h1) (aE G aD G)))
 ·intro _ E
  have f:=o.trans E
  refine dk G G (aO G G fun _ _ Z _ q=>?_)
  obtain⟨_,_,_,_,rfl,p⟩:=Z
  have p:=p.ext q
  refine dk G G (dk G G (aB (mv 1 G (aR (cF (aK (bD (bC [F0] G ⟨rfl,Fo⟩ ?_))))))))
  exact⟨_,rfl,rfl,f⟩
theorem QK {nb:Nat}(hx:Zi w sa Aa na ca x)(la:na≤17179869184)(hy:Zi w sb Ab nb cb y)(lb:nb≤17179869184)(h0:y=0):aQ aM 48 #[J sa Aa na ca,J sb Ab nb cb] w (Gv w (T2 (ZR w.heap.size (0)) (Is (v4 4)))):=by
 have Lx:ln x≤17179869184:=a6 hx.ln la
 have Ly:ln y≤17179869184:=a6 hy.ln lb
 refine bP Tryz.func48 G (n:=25) G (bq G) (args:= [J sa Aa na ca,J sb Ab nb cb]) (bH [(0,J sa Aa na ca),(1,J sb Ab nb cb)] ⟨rfl,rfl,Fo⟩ (sr (bx (O sa Aa na ca) (Ext.refl w) G G G fun _ _ H _ _ F=>(d5 (O sb Ab nb cb) F H.lt G G G fun _ _ p _ _ _ I=>(bF [F0,S0] I p.lt (fun _=>by kernel_rfl) G fun _ _ h q _ M o=>(mv 1 G (aA (aH (sr (lo a8 (p.ext M) (O sb Ab nb cb) G G G (cl (vs:= [J sb Ab nb cb]) o (f6 (hy.ext o) (aL lb G)) G (by kernel_rfl) fun _ L E X U=>?_)))))))))))
 obtain rfl:=E
 refine aN G G G true (iY h0) (aA (bB G (sr (pu (v:= .agg #[F0,S0]) G ?_))))
 have f:=(h.ext X)
 refine so a8 f [F0,S0] U q G G G G fun _ D V W=>(mv 1 G (aA (bD (cT (bC [.agg #[F0,S0],v4 4] G ⟨⟨_,rfl,aW a8 D [F0,S0] G (bq G) rfl⟩,rfl,Fo⟩ ?_)))))
 exact⟨_,rfl,⟨_,_,rfl,⟨_,_,_,_,rfl,((Zr.zero (w:=L) (base:=w.heap.size)).updT f V)⟩,rfl⟩,W⟩
theorem QL {nb:Nat}(hb:b≤w.heap.size)(hx:Zi w sa Aa na ca x)(la:na≤17179869184)(hy:Zi w sb Ab nb cb y)(lb:nb≤17179869184)(h0:y=0):aQ aM 48 #[J sa Aa na ca,J sb Ab nb cb] w (Gv w (T2 (ZR b (0)) (Is (v4 4)))):=(QK hx la hy lb h0).mono (Gv.imp (T2.imp (ZR.imp hb) Is.imp))
theorem QO {nb:Nat}(hx:Zi w sa Aa na ca x)(la:na≤17179869184)(hy:Zi w sb Ab nb cb y)(lb:nb≤17179869184)(h0:y≠0)(hg:(Int.gcd x y:Int)≠1):aQ aM 48 #[J sa Aa na ca,J sb Ab nb cb] w (Gv w (T2 (ZR w.heap.size (0)) (Is (v4 6)))):=by
 have Lx:ln x≤17179869184:=a6 hx.ln la
 have Ly:ln y≤17179869184:=a6 hy.ln lb
 refine bP Tryz.func48 G (n:=25) G (bq G) (args:= [J sa Aa na ca,J sb Ab nb cb]) (bH [(0,J sa Aa na ca),(1,J sb Ab nb cb)] ⟨rfl,rfl,Fo⟩ (sr (bx (O sa Aa na ca) (Ext.refl w) G G G fun _ _ bc _ _ co=>(d5 (O sb Ab nb cb) co bc.lt G G G fun _ _ Z _ _ e8 ck=>(bF [F0,S0] ck Z.lt (fun _=>by kernel_rfl) G fun _ _ L bm _ aa ar=>(mv 1 G (aA (aH (sr (lo a8 (Z.ext aa) (O sb Ab nb cb) G G G (cl (vs:= [J sb Ab nb cb]) ar (f6 (hy.ext ar) (aL lb G)) G (by kernel_rfl) fun _ _ cj h q=>?_)))))))))))
 obtain rfl:=cj
 refine aN G G G false (fE h0) (aA (aV G (b8 (aK (sr (lo a8 (bc.ext (e8.t (aa.t h))) (O sa Aa na ca) G G G (lo a8 (Z.ext (aa.t h)) (O sb Ab nb cb) G G G (eL G G (vs:= [J sa Aa na ca,J sb Ab nb cb]) (by kernel_rfl) (by decide) (sG q.size (hx.ext q) (aL la G) (hy.ext q) (aL lb G)) ?_))))))))
 rintro _ _ ⟨bt,bu,az,_,rfl,bz,Y⟩
 have br:ln ((Int.gcd x y:Int))≤17179869184:=a6 (fK _ _) (Nat.max_le.2 ⟨a6 Lx (by decide),a6 Ly (by decide)⟩)
 have cv:ln (bt)≤17179869185:=(az.ln_u Lx Ly)
 have cu:ln (bu)≤17179869185:=(az.ln_v Lx Ly)
 refine eM ?_
 have ct:=q.trans Y
 obtain⟨_,_,_,rfl,⟨D,o,E,f,rfl,bo⟩,⟨aq,ah,an,bd,rfl,_⟩,⟨bg,bf,aw,ba,rfl,_⟩⟩:=bz
 refine mv 1 G (pu (v:= J D o E f) G (pu (v:= J aq ah an bd) G (pu (v:= J bg bf aw ba) G (bF [F0,S0] ct (L.ext (h.t Y)).lt (fun _=>by kernel_rfl) G fun _ _ W am _ aj cp=>(bF [F0,S0] cp W.lt (fun _=>by kernel_rfl) G fun _ _ V ao _ ae ch=>(bF [F0,S0] ch V.lt (fun _=>by kernel_rfl) G fun _ _ bj bh _ F bp=>?_))))))
 have U:=(W.ext (ae.t F))
 refine so a8 U (O D o E f) bp am G G G G fun _ ag H cn=>?_
 have M:=((V.ext F).vN H)
 refine so a8 M (O aq ah an bd) cn ao G G G G fun _ _ p av=>?_
 have X:=((bj.vN H).vN p)
 refine so a8 X (O bg bf aw ba) av bh G G G G fun _ _ ab bi=>(aA (aH (sr (lo a8 ((ag.vN p).vN ab) (O D o E f) G G G (cl (vs:= [J D o E f]) bi (QD ((((bo.ext (aj.t (ae.t F))).updT U H).updT M p).updT X ab).zi (bo.le (aL br G)) hg) G (by kernel_rfl) fun _ cm bv ci ai=>?_)))))
 obtain rfl:=bv
 refine pu (v:= By) G (aA (bB G (sr (pu (v:= .agg #[F0,S0]) G ?_))))
 have I:=(((((L.ext (h.t (Y.t (aj.t (ae.t F))))).vN H).vN p).vN ab).ext ci)
 refine so a8 I [F0,S0] ai bm G G G G fun _ au cg ak=>(mv 1 G (aA (bD (cT (bC [.agg #[F0,S0],v4 6] G ⟨⟨_,rfl,aW a8 au [F0,S0] G (bq G) rfl⟩,rfl,Fo⟩ ?_)))))
 exact⟨_,rfl,⟨_,_,rfl,⟨_,_,_,_,rfl,((Zr.zero (w:=cm) (base:=w.heap.size)).updT I cg)⟩,rfl⟩,ak⟩
theorem QP {nb:Nat}(hb:b≤w.heap.size)(hx:Zi w sa Aa na ca x)(la:na≤17179869184)(hy:Zi w sb Ab nb cb y)(lb:nb≤17179869184)(h0:y≠0)(hg:(Int.gcd x y:Int)≠1):aQ aM 48 #[J sa Aa na ca,J sb Ab nb cb] w (Gv w (T2 (ZR b (0)) (Is (v4 6)))):=(QO hx la hy lb h0 hg).mono (Gv.imp (T2.imp (ZR.imp hb) Is.imp))
theorem QM {nb:Nat}(hx:Zi w sa Aa na ca x)(la:na≤17179869184)(hy:Zi w sb Ab nb cb y)(lb:nb≤17179869184)(h0:y≠0)(hg:(Int.gcd x y:Int)=1):aQ aM 48 #[J sa Aa na ca,J sb Ab nb cb] w (fun e w'=>∃u v,Bez x y u v∧Gv w (T2 (ZR w.heap.size u) (Is (v4 0))) e w'):=by
 have Lx:ln x≤17179869184:=a6 hx.ln la
 have Ly:ln y≤17179869184:=a6 hy.ln lb
 refine bP Tryz.func48 G (n:=25) G (bq G) (args:= [J sa Aa na ca,J sb Ab nb cb]) (bH [(0,J sa Aa na ca),(1,J sb Ab nb cb)] ⟨rfl,rfl,Fo⟩ (sr (bx (O sa Aa na ca) (Ext.refl w) G G G fun _ _ bh _ _ co=>(d5 (O sb Ab nb cb) co bh.lt G G G fun _ _ am _ _ e8 cm=>(bF [F0,S0] cm am.lt (fun _=>by kernel_rfl) G fun _ _ ab bt _ an ba=>(mv 1 G (aA (aH (sr (lo a8 (am.ext an) (O sb Ab nb cb) G G G (cl (vs:= [J sb Ab nb cb]) ba (f6 (hy.ext ba) (aL lb G)) G (by kernel_rfl) fun _ _ ck U W=>?_)))))))))))
 obtain rfl:=ck
 refine aN G G G false (fE h0) (aA (aV G (b8 (aK (sr (lo a8 (bh.ext (e8.t (an.t U))) (O sa Aa na ca) G G G (lo a8 (am.ext (an.t U)) (O sb Ab nb cb) G G G (eL G G (vs:= [J sa Aa na ca,J sb Ab nb cb]) (by kernel_rfl) (by decide) (sG W.size (hx.ext W) (aL la G) (hy.ext W) (aL lb G)) ?_))))))))
 rintro _ _ ⟨ar,au,ai,_,rfl,ch,ak⟩
 have bz:ln ((Int.gcd x y:Int))≤17179869184:=a6 (fK _ _) (Nat.max_le.2 ⟨a6 Lx (by decide),a6 Ly (by decide)⟩)
 have cx:ln (ar)≤17179869185:=(ai.ln_u Lx Ly)
 have cv:ln (au)≤17179869185:=(ai.ln_v Lx Ly)
 refine eM ?_
 have cu:=W.trans ak
 obtain⟨_,_,_,rfl,⟨X,V,Y,M,rfl,bu⟩,⟨o,f,h,p,rfl,cp⟩,⟨bj,bi,bf,bg,rfl,_⟩⟩:=ch
 refine mv 1 G (pu (v:= J X V Y M) G (pu (v:= J o f h p) G (pu (v:= J bj bi bf bg) G (bF [F0,S0] cu (ab.ext (U.t ak)).lt (fun _=>by kernel_rfl) G fun _ _ ag aw _ ah ct=>(bF [F0,S0] ct ag.lt (fun _=>by kernel_rfl) G fun _ _ ae az _ Z cj=>(bF [F0,S0] cj ae.lt (fun _=>by kernel_rfl) G fun _ _ br bm _ F bv=>?_))))))
 have E:=(ag.ext (Z.t F))
 refine so a8 E (O X V Y M) bv aw G G G G fun _ ao I cn=>?_
 have q:=((ae.ext F).vN I)
 refine so a8 q (O o f h p) cn az G G G G fun _ bp D bd=>?_
 have L:=((br.vN I).vN D)
 refine so a8 L (O bj bi bf bg) bd bm G G G G fun _ _ H bo=>(aA (aH (sr (lo a8 ((ao.vN D).vN H) (O X V Y M) G G G (cl (vs:= [J X V Y M]) bo (QC ((((bu.ext (ah.t (Z.t F))).updT E I).updT q D).updT L H).zi (bu.le (aL bz G)) hg) G (by kernel_rfl) fun _ _ cg aj aq=>?_)))))
 obtain rfl:=cg
 refine pu (v:= BY) G (aA (aV G (b8 (aK (sr (lo a8 ((bp.vN H).ext aj) (O o f h p) G G G ?_))))))
 have aa:=(((((ab.ext (U.t (ak.t (ah.t (Z.t F))))).vN I).vN D).vN H).ext aj)
 refine so a8 aa (O o f h p) aq bt G G G G fun _ bc ci av=>(mv 1 G (aA (bD (bC [J o f h p,I0] G ⟨⟨_,rfl,aW a8 bc (O o f h p) G (bq G) rfl⟩,rfl,Fo⟩ ?_))))
 exact⟨ar,au,ai,_,rfl,⟨_,_,rfl,⟨_,_,_,_,rfl,((((((cp.ext (ah.t (Z.t F))).updT E I).updT q D).updT L H).ext aj).updT aa ci)⟩,rfl⟩,av⟩
theorem QN {nb:Nat}(hb:b≤w.heap.size)(hx:Zi w sa Aa na ca x)(la:na≤17179869184)(hy:Zi w sb Ab nb cb y)(lb:nb≤17179869184)(h0:y≠0)(hg:(Int.gcd x y:Int)=1):aQ aM 48 #[J sa Aa na ca,J sb Ab nb cb] w (fun e w'=>∃u v,Bez x y u v∧Gv w (T2 (ZR b u) (Is (v4 0))) e w'):=(QM hx la hy lb h0 hg).mono fun e _ h=>(by obtain⟨u,v,f,o⟩:=h;exact⟨u,v,f,Gv.imp (T2.imp (ZR.imp hb) Is.imp) _ _ o⟩)
theorem oM {α:Type}{l:List α}{d:α}(h:k<l.length):l.take (k+1)=l.take k++ [l.getD k d]:=by
 rw [List.take_add_one,bE,cA h];rfl
def bQ (zs:List Int):Int:=zs.foldl (fun g z=>(Int.gcd g z:Int)) 0
theorem EU (zs:List Int)(z:Int):bQ (zs++ [z])=(Int.gcd (bQ zs) z:Int):=by unfold bQ;rw [List.foldl_append];rfl
theorem sB (h:k<zs.length):(Int.gcd (bQ (zs.take k)) (zs.getD k 0):Int)=bQ (zs.take (k+1)):=by rw [oM (d:=0) h,EU]
theorem gZ (h:∀i,ln (zs.getD i 0)≤N)(k:Nat):ln (bQ (zs.take k))≤N:=by
 induction k with
 | zero=>rw [List.take_zero];exact bJ _
 | succ k ih=>
  by_cases hk:k<zs.length
  ·rw [←sB hk];exact a6 (fK _ _) (Nat.max_le.2 ⟨ih,h k⟩)
  ·rw [List.take_of_length_le (by omega)] at ih⊢;exact ih
theorem uI (h:Zl w A n cap zs ms)(hm:∀i,ms.getD i 0≤N)(i:Nat):ln (zs.getD i 0)≤N:=by
 by_cases hi:i<n
 ·obtain⟨p,s,B,c,_,_,f⟩:=h.at hi
  exact a6 f.ln (hm i)
 ·rw [bE,gM (by rw [h.len];omega)];exact bJ _
theorem nA (h:Zl w A n cap zs ms):zs.take n=zs:=List.take_of_length_le (by rw [h.len];exact aS _)
theorem QQ (hb:b≤w.heap.size)(hl:Zl w A n cap zs ms)(hn:n≤2097152)(hmb:∀i,ms.getD i 0≤16777216):aQ aM 45 #[AT A n cap] w (Gv w (ZR b (bQ zs))):=by
 have hln:∀i,ln (zs.getD i 0)≤16777216:=uI hl hmb
 refine bP Tryz.func45 G (n:=17) G (bq G) (args:= [AT A n cap]) (bH [(0,AT A n cap)] ⟨rfl,Fo⟩ (sr (al [F0,S0] (Ext.refl w) (fun _=>by kernel_rfl) G fun g1 _ W az _ q=>(aA (sr (bF [F0,S0] q W.lt (fun _=>by kernel_rfl) G fun g6 v7 aq Y _ e8 h=>(aA (aH (sr (mv 1 G (pu (v:= v4 n) G (mv 1 G (aR ?_)))))))))))))
 refine aK (bG ?_)
 refine cQ (T:=a7×Nat×ZC)
  (fun⟨wr,k,kg⟩=> [(2,no g1 0),(3,no g6 0),(6,AT A n cap),(7,v4 n),(8,v4 k)])
  (fun⟨wr,k,kg⟩=>wr)
  (fun⟨wr,k,kg⟩=>(Ext w wr)∧(k≤n)∧(Bk wr g1 24 [F0,S0])∧(Bk wr g6 24 (O kg.s kg.A kg.n kg.c))∧(Zr wr w.heap.size kg.s kg.A kg.n kg.c (bQ (zs.take k))))
  (fun⟨wr,k,kg⟩=>n-k)
  (⟨v7,0,⟨false,none,0,0⟩⟩:a7×Nat×ZC) ⟨h,bJ _,(W.ext e8),aq,Zr.zero⟩ G ⟨rfl,rfl,rfl,rfl,rfl,Fo⟩ ?_
 rintro⟨wr,k,kg⟩ ⟨q,_,b_2,b_3,zg⟩
 refine cP [(2,no g1 0),(3,no g6 0),(6,AT A n cap),(7,v4 n),(8,v4 k)] wr G ⟨rfl,rfl,rfl,rfl,rfl,Fo⟩ (aH ?_)
 by_cases bg:k<n
 ·refine aJ (aN G G G true (cG (a:=k) (b:=n) G G) (aA (aH (bB G (b8 (aK (aH (bG (sr ?_)))))))))
  obtain⟨an,o,f,p,U,M,I⟩:=hl.at (i:=k) (by omega)
  refine bI G G G d9 a8.size k G an U (aP G G (M _ q _ _ a8) (bF [F0,S0] q b_3.lt (fun _=>by kernel_rfl) G fun _ _ F X _ E h=>(so a8 F [.bool o,AT f (ms.getD k 0) p] h X G G G G fun _ Z D V=>(aA (aJ (lo a8 ((b_3.ext E).vN D) (O kg.s kg.A kg.n kg.c) G G G (lo a8 Z [.bool o,AT f (ms.getD k 0) p] G G G ?_)))))))
  have bf:ln ((Int.gcd (bQ (zs.take k)) (zs.getD k 0):Int))≤16777216:=a6 (fK _ _) (Nat.max_le.2 ⟨a6 (gZ hln k) (by decide),a6 (a6 I.ln (hmb k)) (by decide)⟩)
  refine cl (vs:= [J kg.s kg.A kg.n kg.c,.agg #[.bool o,AT f (ms.getD k 0) p]]) V (yH V.size ((zg.ext E).updT F D).zi (zg.le (a6 (gZ hln k) (by decide))) (I.ext V) (a6 (hmb k) (by decide))) G (by kernel_rfl) fun _ _ aw ah ba=>?_
  obtain⟨aa,ae,ag,am,rfl,av⟩:=aw
  have L:=(((b_3.ext E).vN D).ext ah)
  refine so a8 L (O aa ae ag am) ba Y G G G G fun ao ai ak bc=>(aR (bM (aK (aJ (aT G G G ((k+1:Nat):Int) (bK (a:=k) (b:=1) G G) (mv 1 G (aR (bX (⟨ao,k+1,⟨aa,ae,ag,am⟩⟩:a7×Nat×ZC) ⟨bc,(by omega),((((b_2.ext E).vN D).ext ah).vN ak),ai,((av.updT L ak)).cast (sB (by rw [hl.len];omega))⟩ (show n-(k+1)<n-k by omega) G ⟨rfl,rfl,rfl,rfl,rfl,Fo⟩))))))))
 ·refine aJ (aN G G G false (cL (a:=k) (b:=n) G G) (aA (aH (aV G (cR (cK (cN (cO (aK (sr (lo a8 b_3 (O kg.s kg.A kg.n kg.c) G G G ?_)))))))))))
  have H:=b_2
  refine so a8 H (O kg.s kg.A kg.n kg.c) q az G G G G fun _ aj ar h=>(aA (bD (bC [J kg.s kg.A kg.n kg.c] G ⟨⟨_,rfl,aW a8 aj (O kg.s kg.A kg.n kg.c) G (bq G) rfl⟩,Fo⟩ ?_)))
  have ab:k=n:=by omega
  exact⟨_,rfl,⟨_,_,_,_,rfl,(((zg.updT H ar)).cast (show bQ (zs.take k)=bQ zs by rw [ab,nA hl])).mono hb⟩,h⟩
def j3:List Int→List Int→Int
 | z::zs,c::cs=>z*c+j3 zs cs
 | _,_=>0
theorem FR:∀(zs cs:List Int) (z c:Int),zs.length=cs.length→j3 (zs++ [z]) (cs++ [c])=j3 zs cs+z*c
 | [],[],z,c,_=>by simp [j3]
 | a::zs,b::cs,z,c,h=>by simp only [List.cons_append,j3,FR zs cs z c (by simpa using h)];omega
 | [],b::cs,z,c,h=>by simp at h
 | a::zs,[],z,c,h=>by simp at h
theorem FS:∀(zs cs:List Int) (u:Int),j3 zs (cs.map (· *u))=j3 zs cs*u
 | [],cs,u=>by cases cs <;> simp [j3]
 | a::zs,[],u=>by simp [j3]
 | a::zs,b::cs,u=>by simp only [kH,j3,FS zs cs u,Int.add_mul,Int.mul_assoc]
def fB (cs:List Int)(u:Int)(j:Nat):List Int:=(cs.take j).map (· *u)++cs.drop j
theorem DK (cs:List Int)(u:Int):fB cs u 0=cs:=by simp [fB]
theorem xW (h:cs.length=k):fB cs u k=cs.map (· *u):=by subst h;simp [fB]
theorem xV (h:j<cs.length):(fB cs u j).getD j 0=cs.getD j 0:=by
 have e:((cs.take j).map (· *u)).length=j:=by simp;omega
 unfold fB
 rw [bE,List.getElem?_append_right (by omega),e,Nat.sub_self,List.getElem?_drop,bE,Nat.add_zero]
theorem DL (h:j<cs.length):(fB cs u j).set j ((fB cs u j).getD j 0*u)=fB cs u (j+1):=by
 rw [xV h]
 have e:((cs.take j).map (· *u)).length=j:=by simp;omega
 unfold fB
 rw [List.set_append_right _ _ (by omega),e,Nat.sub_self,oM (d:=0) h,List.map_append,List.append_assoc]
 congr 1
 rw [List.drop_eq_getElem_cons h,List.set_cons_zero,bE,cA h]
 rfl
def sl (zs:List Int):Nat:=(zs.map fun z=>ln z+1).sum
theorem KP (zs:List Int)(z:Int):sl (zs++ [z])=sl zs+(ln z+1):=by simp [sl]
theorem BR:∀zs:List Int,sl zs=(zs.map ln).sum+zs.length
 | []=>rfl
 | a::r=>by
  have ih:=BR r
  simp only [sl,kH,List.sum_cons,gD] at ih⊢;omega
theorem BQ (zs:List Int):∀k,sl (zs.take k)≤(zs.map ln).sum+zs.length:=by
 intro k
 have f:sl (zs.take k)≤sl zs:=by
  have e:sl zs=sl (zs.take k)+sl (zs.drop k):=by
   unfold sl;rw [←List.sum_append,←List.map_append,r9]
  omega
 have h:=BR zs
 omega
theorem Bez.ln_u2 (h:Bez x y u v):ln u≤ln y+1:=by
 by_cases f:y=0
 ·rw [(h.zero f).1]
  rcases Int.lt_trichotomy x 0 with hx | hx | hx
  ·rw [Int.sign_eq_neg_one_of_neg hx];exact a6 (rY (by decide) (by decide)) (by omega)
  ·subst hx;exact bJ _
  ·rw [Int.sign_eq_one_of_pos hx];exact a6 (rY (by decide) (by decide)) (by omega)
 ·have o:=h.lo f
  have D:=h.hi f
  have q:=Int.gcd_pos_of_ne_zero_right x f
  refine a6 (iA (y:=y) ?_) (Nat.le_succ _)
  have p:u*1≤u*(Int.gcd x y:Int):=Int.mul_le_mul_of_nonneg_left (by omega) o
  omega
theorem DM:(fB cs u j).length=cs.length:=by simp [fB];omega
theorem FG (hj:j=k)(hk:k<zs.length)(hl:cs.length=k)(hd:j3 (zs.take k) cs=bQ (zs.take k))(h:Bez (bQ (zs.take k)) (zs.getD k 0) u v):j3 (zs.take (k+1)) (fB cs u j++ [v])=bQ (zs.take (k+1)):=by
 rw [hj,xW hl,oM (d:=0) hk,FR _ _ _ _ (by simp;omega),FS,hd,EU]
 exact h.eq
theorem OP (i:Nat):(cs.map (· *u)).getD i 0=cs.getD i 0*u:=by
 simp only [bE,List.getElem?_map]
 cases cs[i]? <;> simp
theorem FI (hj:j=k){g:Int}(hk:k<zs.length)(hl:cs.length=k)(hB:∀i,ln (cs.getD i 0)≤M+sl (zs.take k))(h:Bez g (zs.getD k 0) u v)(hv:ln v≤M):∀i,ln ((fB cs u j++ [v]).getD i 0)≤M+sl (zs.take (k+1)):=by
 intro i
 rw [hj,xW hl,oM (d:=0) hk,KP]
 by_cases hi:i<k
 ·rw [sA (h:=(by simp;omega)),OP]
  have o:=hB i
  have q:=h.ln_u2
  exact a6 (dR o q) (by omega)
 ·by_cases f:i=k
  ·subst f
   have e:((cs.map (· *u))++ [v]).getD i 0=v:=by
    have p:(cs.map (· *u)).length=i:=by simp [hl]
    rw [←p];exact s9
   rw [e];omega
  ·rw [bE,gM (by simp;omega)];exact bJ _
def LR (K b lb n:Nat)(zs:List Int)(v:Value)(w:a7):Prop:=∃A cap,v= AT A n cap∧Lz none K b w lb A n cap zs
def TD (K b lb n:Nat)(x:Int)(zs:List Int)(v:Value)(w:a7):Prop:=∃s A m c B d,v= .tuple #[J s A m c,AT B n d]∧Zr w b s A m c x∧Ld K b (fun k=>∀p,A=some p→p.block≠k) w lb B n d zs
theorem iH {s:Bool}(h:A=some p):dH (J s A n c) p.block:=bW ⟨s,p,n,c,by rw [h],rfl⟩
def pB:List Int→List Int→Prop
 | [],cs=>cs= []
 | z::zs,cs=>∃u v c,pB zs c∧Bez (bQ zs.reverse) z u v∧cs=c.map (· *u)++ [v]
theorem FH (hj:j=k)(hk:k<zs.length)(hl:cs.length=k)(hd:pB (zs.take k).reverse cs)(h:Bez (bQ (zs.take k)) (zs.getD k 0) u v):pB (zs.take (k+1)).reverse (fB cs u j++ [v]):=by
 rw [hj,xW hl,oM (d:=0) hk,List.reverse_append]
 exact⟨u,v,cs,hd,by show Bez (bQ (zs.take k).reverse.reverse) _ u v;rw [List.reverse_reverse];exact h,rfl⟩
structure ExtL (zs cs:List Int)(n:Nat):Prop where
 ex:pB zs.reverse cs
 len:cs.length=n
 dot:j3 zs cs=bQ zs
 ln:∀i,Go.Proofs.YtkkabncicmhjfaaGreat.ln (cs.getD i 0)≤3145730
theorem QR {b2:Nat}(hb:b≤w.heap.size)(hb2:b2≤w.heap.size)(hl:Zl w A n cap zs ms)(hn:n≤1048576)(hmb:∀i,ms.getD i 0≤1048576)(hsum:(zs.map ln).sum≤1048576):aQ aM 47 #[AT A n cap] w (fun e w'=>∃cs,ExtL zs cs n∧Gv w (TD 8388608 b b2 n (bQ zs) cs) e w'):=by
 have hln:∀i,ln (zs.getD i 0)≤1048576:=uI hl hmb
 have ix:∀k,sl (zs.take k)≤2097152:=fun k=>a6 (BQ zs k) (by rw [hl.len];omega)
 refine bP Tryz.func47 G (n:=51) G (bq G) (args:= [AT A n cap]) (bH [(0,AT A n cap)] ⟨rfl,Fo⟩ (sr (al [F0,S0] (Ext.refl w) (fun _=>by kernel_rfl) G fun g1 _ ft jo _ aa=>(mv 1 G (aA (sr (bF [F0,S0] aa ft.lt (fun _=>by kernel_rfl) G fun g6 _ iu gj _ e8 ae=>(aA (sr (mv 1 G (pu (v:= v4 n) G (wQ (k:=n) none 8388608 w.heap.size G G G fun aj iq cg dh fo=>?_))))))))))))
 have ko:g1<aj:=by rw [←cg];exact (ft.ext e8).lt
 have lg:g6<aj:=by rw [←cg];exact iu.lt
 have ef:aj≤iq.heap.size:=by have:=(dh.block _ G).2;exact Nat.le_of_lt this
 have je:w.heap.size≤aj:=by rw [←cg];exact ae.size
 clear cg
 have ab:=ae.trans fo
 have ju:=dh.block
 refine mv 1 G (aA (aH (sr (mv 1 G (pu (v:= v4 n) G (mv 1 G (aA (bG ?_))))))))
 refine cQ (T:=a7×Nat×ZC×Option aG×Nat×List Int)
  (fun⟨wr,k,kg,LA,lc,cs⟩=> [(2,no g1 0),(3,AT none 0 0),(4,no g6 0),(5,AT LA k lc),(15,AT A n cap),(16,v4 n),(17,v4 k)])
  (fun⟨wr,k,kg,LA,lc,cs⟩=>wr)
  (fun⟨wr,k,kg,LA,lc,cs⟩=>(Ext w wr)∧(k≤n)∧(cs.length=k)∧(∀i,ln (cs.getD i 0)≤1048578+sl (zs.take k))∧(j3 (zs.take k) cs=bQ (zs.take k))∧(pB (zs.take k).reverse cs)∧(aj≤wr.heap.size)∧(Ld 8388608 w.heap.size (fun b=>∀p,kg.A=some p→p.block≠b) wr aj LA k lc cs)∧(Bk wr g1 24 [F0,S0])∧(Bk wr g6 24 (O kg.s kg.A kg.n kg.c))∧(Zr wr w.heap.size kg.s kg.A kg.n kg.c (bQ (zs.take k))))
  (fun⟨wr,k,kg,LA,lc,cs⟩=>n-k)
  (⟨iq,0,⟨false,none,0,0⟩,(some ⟨aj,0,none⟩),n,[]⟩:a7×Nat×ZC×Option aG×Nat×List Int) ⟨ab,bJ _,rfl,(fun i=>bJ _),rfl,rfl,ef,dh.ld0,(ft.ext (e8.t fo)),(iu.ext fo),Zr.zero⟩ G ⟨rfl,rfl,rfl,rfl,rfl,rfl,rfl,Fo⟩ ?_
 rintro⟨wr,k,kg,LA,lc,cs⟩ ⟨aa,_,da,hB,dt,df,cx,an,b_2,b_4,zg⟩
 refine cP [(2,no g1 0),(3,AT none 0 0),(4,no g6 0),(5,AT LA k lc),(15,AT A n cap),(16,v4 n),(17,v4 k)] wr G ⟨rfl,rfl,rfl,rfl,rfl,rfl,rfl,Fo⟩ ?_
 have fh:=an.block
 refine aH ?_
 by_cases kk:k<n
 ·refine aJ (aN G G G true (cG (a:=k) (b:=n) G G) (aA (aH (bB G (b8 (aK (aH (bG (sr ?_)))))))))
  obtain⟨ig,ci,cn,co,fq,fp,cj⟩:=hl.at (i:=k) (by omega)
  refine bI G G G d9 a8.size k G ig fq (aP G G (fp _ aa _ _ a8) (dW G (z:= .agg #[F0,S0]) (vs:= [F0,S0]) (fun _=>by kernel_rfl) G fun bt _ nb=>?_))
  have ch:=nb.bk
  have ik:w.heap.size≤bt:=by rw [←nb.at_];exact aa.size
  have lh:g6<bt:=by rw [←nb.at_];exact b_4.lt
  have du:∀p,LA=some p→p.block≠bt:=fun p E=>by have:=(an).block p E;have:=nb.at_;omega
  have aq:=nb.ext
  clear nb
  have ae:=aa.trans aq
  refine so a8 ch [.bool ci,AT cn (ms.getD k 0) co] ae ik G G G G fun io dl bj ab=>(aA (aH ?_))
  have ct:=((an.ext aq).updT ch bj du).lt
  refine aJ (lo a8 ((b_4.ext aq).vN bj) (O kg.s kg.A kg.n kg.c) G G G (lo a8 dl [.bool ci,AT cn (ms.getD k 0) co] G G G (eL G G (vs:= [J kg.s kg.A kg.n kg.c,.agg #[.bool ci,AT cn (ms.getD k 0) co]]) (by kernel_rfl) (by decide) (yI (aS _) ((zg.ext aq).updT ch bj).zi (zg.le (a6 (gZ hln k) (by decide))) (cj.ext ab) (a6 (hmb k) (by decide))) ?_)))
  rintro _ _ ⟨ag,dz,ba,_,rfl,jg,ak⟩
  have kv:ln ((Int.gcd (bQ (zs.take k)) (zs.getD k 0):Int))≤1048576:=a6 (fK _ _) (Nat.max_le.2 ⟨a6 (gZ hln k) (by decide),a6 (a6 cj.ln (hmb k)) (by decide)⟩)
  have fi:ln (ag)≤1048577:=(ba.ln_u (gZ hln k) (a6 cj.ln (hmb k)))
  have jh:ln (dz)≤1048577:=(ba.ln_v (gZ hln k) (a6 cj.ln (hmb k)))
  refine eM ?_
  have dy:=ab.trans ak
  obtain⟨_,_,_,rfl,⟨bi,ao,bd,ar,rfl,cz⟩,r43_1,r43_2,_,eh,_⟩:=jg
  have nw_z44:=cz.new
  replace cz:=cz.mono ab.size
  obtain⟨aw,bg,br,bm,rfl,ee⟩:=r43_1
  have nw_z45:=ee.new
  replace ee:=ee.mono ab.size
  obtain⟨az,bu,bp,bv,rfl,de⟩:=r43_2
  have nw_z46:=de.new
  replace de:=de.mono ab.size
  refine mv 1 G (pu (v:= J bi ao bd ar) G (pu (v:= J aw bg br bm) G (pu (v:= J az bu bp bv) G (dW G (z:= .agg #[F0,S0]) (vs:= [F0,S0]) (fun _=>by kernel_rfl) G fun bf _ nb=>?_))))
  have fe:=nb.bk
  have gg:w.heap.size≤bf:=by rw [←nb.at_];exact dy.size
  have kx:bt<bf:=by rw [←nb.at_];exact (dl.ext ak).lt
  have ck:∀p,LA=some p→p.block≠bf:=fun p E=>by have:=((ct.ext ak)).block p E;have:=nb.at_;omega
  have F:=nb.ext
  clear nb
  have ib:=dy.trans F
  refine dW G (z:= .agg #[F0,S0]) (vs:= [F0,S0]) (fun _=>by kernel_rfl) G fun av _ nb=>?_
  have fa:=nb.bk
  have ga:w.heap.size≤av:=by rw [←nb.at_];exact ib.size
  have kn:bf<av:=by rw [←nb.at_];exact fe.lt
  have dm:∀p,LA=some p→p.block≠av:=fun p E=>by have:=((ct.ext (ak.t F))).block p E;have:=nb.at_;omega
  have H:=nb.ext
  clear nb
  have jb:=ib.trans H
  refine dW G (z:= .agg #[F0,S0]) (vs:= [F0,S0]) (fun _=>by kernel_rfl) G fun bc _ nb=>?_
  have iy:=nb.bk
  have ja:w.heap.size≤bc:=by rw [←nb.at_];exact jb.size
  have kt:av<bc:=by rw [←nb.at_];exact fa.lt
  have dg:∀p,LA=some p→p.block≠bc:=fun p E=>by have:=((ct.ext (ak.t (F.t H)))).block p E;have:=nb.at_;omega
  have I:=nb.ext
  clear nb
  have jt:=jb.trans I
  have X:=(fe.ext (H.t I))
  refine so a8 X (O bi ao bd ar) jt gg G G G G fun _ ge L jf=>?_
  have Y:=((fa.ext I).vN L)
  refine so a8 Y (O aw bg br bm) jf ga G G G G fun _ ir W jm=>?_
  have Z:=((iy.vN L).vN W)
  refine so a8 Z (O az bu bp bv) jm ja G G G G fun dw gy V gf=>(aA (aH (aH ?_)))
  have ji:=((((cz.ext (F.t (H.t I))).updT X L).updT Y W).updT Z V).old
  have jq:=((((de.ext (F.t (H.t I))).updT X L).updT Y W).updT Z V).old
  refine aJ (mv 1 G (pu (v:= v4 k) G (mv 1 G (aA (bG ?_)))))
  have kz:=ba.ln_u2
  have jz:=hln k
  have jr:ln dz≤1048578:=by have:=(ba.ln_v (N:=1048577) (a6 (gZ hln k) (by decide)) (a6 (hln k) (by decide)));exact this
  refine cQ (T:=a7×Nat)
   (fun⟨wi,j⟩=> [(2,no g1 0),(3,AT none 0 0),(4,no g6 0),(5,AT LA k lc),(7,no bt 0),(8,no bf 0),(9,no av 0),(10,no bc 0),(15,AT A n cap),(16,v4 n),(17,v4 k),(29,v4 k),(30,v4 j)])
   (fun⟨wi,j⟩=>wi)
   (fun⟨wi,j⟩=>(Ext w wi)∧(j≤k)∧(aj≤wi.heap.size)∧(Ld 8388608 w.heap.size (fun b=>b<io.heap.size∨dw.heap.size≤b) wi aj LA k lc (fB cs ag j))∧(dw.heap.size≤wi.heap.size)∧(Bk wi g1 24 [F0,S0])∧(Bk wi g6 24 (O kg.s kg.A kg.n kg.c))∧(Bk wi bt 24 [.bool ci,AT cn (ms.getD k 0) co])∧(Bk wi bf 24 (O bi ao bd ar))∧(Bk wi av 24 (O aw bg br bm))∧(Bk wi bc 24 (O az bu bp bv))∧(Zr wi w.heap.size kg.s kg.A kg.n kg.c (bQ (zs.take k)))∧(Zr wi w.heap.size bi ao bd ar ((Int.gcd (bQ (zs.take k)) (zs.getD k 0):Int)))∧(Zr wi w.heap.size aw bg br bm (ag))∧(Zr wi w.heap.size az bu bp bv (dz)))
   (fun⟨wi,j⟩=>k-j)
   (⟨dw,0⟩:a7×Nat) ⟨gf,bJ _,(a6 (a6 (a6 (a6 (a6 (a6 (a6 (a6 (a6 cx aq.size) bj.by_.size) ak.size) F.size) H.size) I.size) L.by_.size) W.by_.size) V.by_.size),(by rw [DK];exact ((((ct.ext (ak.t (F.t (H.t I)))).updT X L ck).updT Y W dm).updT Z V dg).imp (fun g h=>Or.inl h.2.2)),(aS _),((((((b_2.ext aq).vN bj).ext (ak.t (F.t (H.t I)))).vN L).vN W).vN V),((((((b_4.ext aq).vN bj).ext (ak.t (F.t (H.t I)))).vN L).vN W).vN V),((((dl.ext (ak.t (F.t (H.t I)))).vN L).vN W).vN V),((ge.vN W).vN V),(ir.vN V),gy,((((((zg.ext aq).updT ch bj).ext (ak.t (F.t (H.t I)))).updT X L).updT Y W).updT Z V),((((cz.ext (F.t (H.t I))).updT X L).updT Y W).updT Z V),((((ee.ext (F.t (H.t I))).updT X L).updT Y W).updT Z V),((((de.ext (F.t (H.t I))).updT X L).updT Y W).updT Z V)⟩ G ⟨rfl,rfl,rfl,rfl,rfl,rfl,rfl,rfl,rfl,rfl,rfl,rfl,rfl,Fo⟩ ?_
  rintro⟨wi,j⟩ ⟨aa,hj,cx,an,fb,b_2,b_4,b_7,b_8,b_9,b_10,zz_4,zz_8,zz_9,zz_10⟩
  refine cP [(2,no g1 0),(3,AT none 0 0),(4,no g6 0),(5,AT LA k lc),(7,no bt 0),(8,no bf 0),(9,no av 0),(10,no bc 0),(15,AT A n cap),(16,v4 n),(17,v4 k),(29,v4 k),(30,v4 j)] wi G ⟨rfl,rfl,rfl,rfl,rfl,rfl,rfl,rfl,rfl,rfl,rfl,rfl,rfl,Fo⟩ ?_
  have M:=an.block
  refine aH ?_
  by_cases ki:j<k
  ·refine aJ (aN G G G true (cG (a:=j) (b:=k) G G) (aA (aH (bB G (b8 (aK (aH (bG (sr (mv 2 G (aA ?_)))))))))))
   have ep:=an.lt
   obtain⟨cp,el,ew,ez,fc,bo,fj,_,ij⟩:=(ep).at (i:=j) (by omega)
   have ei:=ij.zr
   have dd:ln ((fB cs ag j).getD j 0)≤3145730:=(by rw [xV (by omega)];have:=hB j;have:=ix k;omega)
   have jx:ln (((fB cs ag j).getD j 0)*ag)≤4194307:=a6 (dR dd fi) (by decide)
   refine cU bR 9 [] [Is (AT LA k lc),Is (v4 j),Is (AT LA k lc),Is (v4 j),Is (.pointer (some cp)),Is (J el ew ez fc),Is (J aw bg br bm),ZR wi.heap.size (((fB cs ag j).getD j 0)*ag),Is (.pointer (some cp))] [[],[],[],[],[2,3],[4],[],[5,6],[0,1]] [[],[],[],[],[2,3],[2,3,4],[],[2,3,4,5,6],[0,1,2,3,4,5,6,7],[0,1,2,3,4,5,6,7,8]] rfl
    (aF G G (aC G G ?_) (aF G G (aC G G ?_) (aF G G (aC G G ?_) (aF G G (aC G G ?_) (aF G G (aC G G ?_) (aF G G (aC G G ?_) (aF G G (aC G G ?_) (aF G G (aC G G ?_) (aF G G (aC G G ?_) cE))))))))) ?_
   ·exact fun _ _=>aB (mv 1 G (aE G aD G))
   ·exact fun _ _=>aB (mv 1 G (aE G aD G))
   ·exact fun _ _=>aB (mv 1 G (aE G aD G))
   ·exact fun _ _=>aB (mv 1 G (aE G aD G))
   ·exact fun _ _=>dk G G (dk G G (aB (bI G G G d9 a8.size j G cp bo (aE G aD G))))
   ·exact fun _ ip=>dk G G (aB (aP G G (fj _ ip _ _ a8) (aE G aD G)))
   ·exact fun _ gt=>aB (lo a8 (b_9.ext gt) (O aw bg br bm) G G G (aE G aD G))
   ·intro _ cm
    have ae:=aa.trans cm
    refine dk G G (dk G G (aB ?_))
    have kc:ln (((fB cs ag j).getD j 0)*ag)≤4194307:=a6 (dR dd fi) (by decide)
    refine cl (vs:= [J el ew ez fc,J aw bg br bm]) ae (mL cm.size (ei.ext cm).zi (ei.le (aL dd G)) (zz_9.ext cm).zi (zz_9.le (aL fi G))) G (by kernel_rfl) fun _ _ il jc ab=>?_
    obtain⟨_,_,_,_,rfl,fx⟩:=il
    exact aE G jc ⟨_,_,_,_,rfl,fx⟩
   ·exact fun _ _=>dk G G (dk G G (aB (bI G G G d9 a8.size j G cp bo (aE G aD G))))
   ·intro _ o
    have ae:=aa.trans o
    refine dk G G (dk G G (dk G G (dk G G (dk G G (dk G G (dk G G (aO G G fun _ _ gx _ ie=>?_)))))))
    obtain⟨gb,ia,jd,iw,rfl,ai⟩:=gx
    have ai:=ai.ext ie
    have nw_z187:=ai.new
    replace ai:=ai.mono aa.size
    refine dk G G (aB ?_)
    have dn:=(ep.ext o)
    obtain⟨_,ah⟩:=dn.own
    refine J6 (P':=(fun b=>b<io.heap.size∨dw.heap.size≤b)) (e:=⟨gb,ia,jd,iw⟩) (z:=((fB cs ag j).getD j 0)*ag) G G G bo (by omega) dn ai (ai.le (aL jx G)) (fun g h=>h.1) (fun p E=>by have h:=nw_z187 _ (iH E);exact⟨bW (a6 fb h),fun h3=>by have:=h3.2.2;omega⟩) fun ej fk f=>?_
    have ab:=f.ext ae (fun p E=>by have:=M p E;omega)
    have cu:aj≤ej.heap.size:=a6 (a6 cx o.size) f.size
    refine aR (cF (bM (aK (aJ (aT G G G ((j+1:Nat):Int) (bK (a:=j) (b:=1) G G) (mv 1 G (aR (bX (⟨ej,j+1⟩:a7×Nat) ⟨ab,(by omega),cu,(by rw [←DL (by omega)];exact fk),(a6 fb (a6 o.size f.size)),((b_2.ext o).updO f (fun p E=>by have:=M p E;omega)),((b_4.ext o).updO f (fun p E=>by have:=M p E;omega)),((b_7.ext o).updO f du),((b_8.ext o).updO f ck),((b_9.ext o).updO f dm),((b_10.ext o).updO f dg),((zz_4.ext o).updOT ah f),((zz_8.ext o).updOT ah f),((zz_9.ext o).updOT ah f),((zz_10.ext o).updOT ah f)⟩ (show k-(j+1)<k-j by omega) G ⟨rfl,rfl,rfl,rfl,rfl,rfl,rfl,rfl,rfl,rfl,rfl,rfl,rfl,Fo⟩))))))))
  ·refine aJ (aN G G G false (cL (a:=j) (b:=k) G G) (aA (aH (aV G (cR (cK (cN (cO (aK (sr (mv 1 G (lo a8 b_10 (O az bu bp bv) G G G (fA G G (k:=1) (e:=24) (O az bu bp bv) (fun _=>by kernel_rfl) fun dr _ nb=>?_)))))))))))))
   have dv:=nb.bk
   have jv:w.heap.size≤dr:=by rw [←nb.at_];exact aa.size
   have kj:bc<dr:=by rw [←nb.at_];exact b_10.lt
   have fm:∀p,LA=some p→p.block≠dr:=fun p E=>by have:=(an).block p E;have:=nb.at_;omega
   have D:=nb.ext
   clear nb
   have ae:=aa.trans D
   have dc:=(an.ext D)
   obtain⟨_,eg⟩:=dc.own
   refine JG (P':=fun b=>∀p,ao=some p→p.block≠b) (e:=⟨az,bu,bp,bv⟩) (z:=dz) rfl rfl rfl dc (a6 cx D.size) dv (zz_10.ext D) (zz_10.le (aL jh rfl)) (fun g h p E=>by have h1:=nw_z44 _ (iH E);have h2:=ji _ (iH E);rcases h with h | h <;> omega) (fun p E=>⟨fun q hq e=>eh _ (iH hq) (e▸iH E),fun h=>by have h1:=nw_z46 _ (iH E);have h2:=jq _ (iH E);rcases h with h | h <;> omega⟩) (by omega) (by decide) fun iz fy gi cy U am=>?_
   have ab:=U.ext ae (fun p E=>by have:=M p E;omega)
   have cv:aj≤gi.heap.size:=a6 (a6 cx D.size) U.size
   have jw:=lP am (b_7.ext D).lt du
   have jk:=lP am (b_8.ext D).lt ck
   have jj:=lP am (b_9.ext D).lt dm
   have jp:=lP am (b_10.ext D).lt dg
   have jy:=lP am dv.lt fm
   have dx:=cy.block
   refine mv 1 G (aA (aJ (lo a8 ((b_8.ext D).updO U ck) (O bi ao bd ar) G G G ?_)))
   have au:=((b_4.ext D).updO U (fun p E=>by have:=M p E;omega))
   refine so a8 au (O bi ao bd ar) ab gj G G G G fun go fv bz dy=>(aR (bM (aK (aJ (aT G G G ((k+1:Nat):Int) (bK (a:=k) (b:=1) G G) (mv 1 G (aR (bX (⟨go,k+1,⟨bi,ao,bd,ar⟩,iz,fy,_⟩:a7×Nat×ZC×Option aG×Nat×List Int) ⟨dy,(by omega),(by rw [fH,DM,da];rfl),(FI (show j=k by omega) (by rw [hl.len];omega) da hB ba jr),(FG (show j=k by omega) (by rw [hl.len];omega) da dt ba),(FH (show j=k by omega) (by rw [hl.len];omega) da df ba),(a6 cv bz.by_.size),(cy.updT au bz (fun p E=>by have:=dx p E;omega)),(((b_2.ext D).updO U (fun p E=>by have:=M p E;omega)).vN bz),fv,((((zz_8.ext D).updOT eg U).updT au bz)).cast (sB (by rw [hl.len];omega))⟩ (show n-(k+1)<n-k by omega) G ⟨rfl,rfl,rfl,rfl,rfl,rfl,rfl,Fo⟩))))))))
 ·refine aJ (aN G G G false (cL (a:=k) (b:=n) G G) (aA (aH (aV G (cR (cK (cN (cO (aK (sr (lo a8 b_4 (O kg.s kg.A kg.n kg.c) G G G (mv 1 G ?_))))))))))))
  have bh:=b_2
  refine so a8 bh (O kg.s kg.A kg.n kg.c) aa jo G G G G fun _ fw fd ae=>(mv 1 G (aA (bD (bC [J kg.s kg.A kg.n kg.c,AT LA k lc] G ⟨⟨_,rfl,aW a8 fw (O kg.s kg.A kg.n kg.c) G (bq G) rfl⟩,rfl,Fo⟩ ?_))))
  have gk:k=n:=by omega
  subst gk
  have fz:=nA hl
  rw [fz] at df dt
  exact⟨cs,⟨df,da,dt,fun i=>a6 (hB i) (by have:=ix k;omega)⟩,_,rfl,⟨_,_,_,_,_,_,rfl,(((zg.updT bh fd)).cast (by rw [fz])).mono hb,((an.updT bh fd (fun p E=>by have:=fh p E;omega))).mono (by decide) hb (by omega)⟩,ae⟩
theorem FM {b l:Int}(h:l∣a-b):a%l=b%l:=by
 obtain⟨k,_⟩:=h
 have e:a=b+l*k:=by omega
 rw [e,Int.add_mul_emod_self_left]
theorem q9 (x y:Int):ln (Int.lcm x y:Int)≤ln x+ln y:=by
 refine a6 (iA (y:=x*y) ?_) (dR (aS _) (aS _))
 rw [Int.natAbs_natCast]
 by_cases h:x*y=0
 ·rcases Int.mul_eq_zero.1 h with h | h <;> subst h <;> simp
 ·refine Nat.le_of_dvd (by omega) ?_
  rw [Int.natAbs_mul,←Int.gcd_mul_lcm x y]
  exact Nat.dvd_mul_left _ _
theorem nM {n:Int}(h:m≠0):(Int.gcd m n:Int)≠0:=by have:=Int.gcd_pos_of_ne_zero_left n h;omega
theorem uY {n:Int}(d1:m∣x-s)(d2:n∣y-s):(Int.gcd m n:Int)∣y-x:=by
 have f:(Int.gcd m n:Int)∣x-s:=Int.dvd_trans (Int.gcd_dvd_left m n) d1
 have h:(Int.gcd m n:Int)∣y-s:=Int.dvd_trans (Int.gcd_dvd_right m n) d2
 have e:y-x=(y-s)-(x-s):=by omega
 rw [e];exact Int.dvd_sub h f
theorem DR {b:Int}(h:b∣a):a.natAbs%b.natAbs=0:=Nat.mod_eq_zero_of_dvd (Int.natAbs_dvd_natAbs.2 h)
theorem DQ {b:Int}(h:¬b∣a):a.natAbs%b.natAbs≠0:=fun e=>h (Int.natAbs_dvd_natAbs.1 (Nat.dvd_of_mod_eq_zero e))
theorem S5 {n:Int}(h:Bez m n u v)(hm:m≠0)(d1:m∣x-s)(d2:n∣y-s):(x+m*((y-x).tdiv (Int.gcd m n:Int)*u))%(Int.lcm m n:Int)=s%(Int.lcm m n:Int):=by
 obtain⟨t,f⟩:=uY d1 d2
 have p:(y-x).tdiv (Int.gcd m n:Int)=t:=by rw [f];exact Int.mul_tdiv_cancel_left _ (nM hm)
 rw [p]
 refine FM ?_
 refine Int.coe_lcm_dvd ?_ ?_
 ·have e:x+m*(t*u)-s=(x-s)+m*(t*u):=by omega
  rw [e];exact Int.dvd_add d1 (Int.dvd_mul_right _ _)
 ·have o:=h.eq
  have e:x+m*(t*u)-s=(y-s)-n*(v*t):=by
   have q:m*(t*u)+n*(v*t)=y-x:=by rw [f,←o];grind
   omega
  rw [e];exact Int.dvd_sub d2 (Int.dvd_mul_right _ _)
theorem kX {n:Int}(hm:m≠0)(hn:n≠0):(Int.lcm m n:Int)≠0:=by have:=Int.lcm_pos hm hn;omega
theorem S4 {n:Int}(hm:m≠0)(h:Bez m n u v)(hd:(Int.gcd m n:Int)∣y-x):∃s,m∣x-s∧n∣y-s:=by
 obtain⟨t,o⟩:=hd
 have f:=h.eq
 refine⟨x+m*(t*u),⟨-(t*u),by rw [Int.mul_neg];omega⟩,⟨v*t,?_⟩⟩
 have p:m*(t*u)+n*(v*t)=y-x:=by rw [o,←f];grind
 omega
theorem QW {nb:Nat}{n:Int}(hb:b≤w.heap.size)(hx:Zi w sa Aa na ca x)(la:na≤67108864)(hm:Zi w sb Ab nb cb m)(lb:nb≤67108864)(hy:Zi w sf Af nf cf y)(lf:nf≤67108864)(hn:Zi w sd Ad nd cd n)(ld:nd≤67108864)(h0:m=0∨n=0):aQ aM 50 #[J sa Aa na ca,J sb Ab nb cb,J sf Af nf cf,J sd Ad nd cd] w (Gv w (TA (ZR b (0)) (ZR b (0)) (Is (v4 4)))):=by
 refine Calls.mono (R:=Gv w (TA (ZR w.heap.size (0)) (ZR w.heap.size (0)) (Is (v4 4)))) ?_ (Gv.imp (TA.imp (ZR.imp hb) (ZR.imp hb) Is.imp))
 have Lx:ln x≤67108864:=a6 hx.ln la
 have Lm:ln m≤67108864:=a6 hm.ln lb
 have Ly:ln y≤67108864:=a6 hy.ln lf
 have Ln:ln n≤67108864:=a6 hn.ln ld
 refine bP Tryz.func50 G (n:=62) G (bq G) (args:= [J sa Aa na ca,J sb Ab nb cb,J sf Af nf cf,J sd Ad nd cd]) (bH [(0,J sa Aa na ca),(1,J sb Ab nb cb),(2,J sf Af nf cf),(3,J sd Ad nd cd)] ⟨rfl,rfl,rfl,rfl,Fo⟩ (sr (bx (O sa Aa na ca) (Ext.refl w) G G G fun _ _ bg _ _ bi=>(d5 (O sb Ab nb cb) bi bg.lt G G G fun _ _ Y _ _ _ bh=>(d5 (O sf Af nf cf) bh Y.lt G G G fun _ _ ah _ _ aw bc=>(d5 (O sd Ad nd cd) bc ah.lt G G G fun _ _ I _ _ am bf=>(bF [F0,S0] bf I.lt (fun _=>by kernel_rfl) G fun _ _ p L _ X bj=>(bF [F0,S0] bj p.lt (fun _=>by kernel_rfl) G fun _ _ U M _ D H=>(mv 1 G (aA (aH (aH ?_))))))))))))
 by_cases ak:m=0
 ·refine aJ (lo a8 (Y.ext (aw.t (am.t (X.t D)))) (O sb Ab nb cb) G G G (cl (vs:= [J sb Ab nb cb]) H (f6 (hm.ext H) (aL lb G)) G (by kernel_rfl) fun _ az ba aq F=>?_))
  obtain rfl:=ba
  refine aN G G G true (iY ak) (mv 4 G (pu (v:= By) G (aA (bB G (sr (pu (v:= .agg #[F0,S0]) G (pu (v:= .agg #[F0,S0]) G ?_)))))))
  have o:=(p.ext (D.t aq))
  refine so a8 o [F0,S0] F L G G G G fun _ ai W V=>?_
  have q:=((U.ext aq).vN W)
  refine so a8 q [F0,S0] V M G G G G fun _ ar ab Z=>(mv 1 G (aA (bD (cT (bC [.agg #[F0,S0],.agg #[F0,S0],v4 4] G ⟨⟨_,rfl,aW a8 (ai.vN ab) [F0,S0] G (bq G) rfl⟩,⟨_,rfl,aW a8 ar [F0,S0] G (bq G) rfl⟩,rfl,Fo⟩ ?_)))))
  exact⟨_,rfl,⟨_,_,_,rfl,⟨_,_,_,_,rfl,(((Zr.zero (w:=az) (base:=w.heap.size)).updT o W).updT q ab)⟩,⟨_,_,_,_,rfl,(((Zr.zero (w:=az) (base:=w.heap.size)).updT o W).updT q ab)⟩,rfl,(fun _ h _=>lQ h)⟩,Z⟩
 ·refine aJ (lo a8 (Y.ext (aw.t (am.t (X.t D)))) (O sb Ab nb cb) G G G (cl (vs:= [J sb Ab nb cb]) H (f6 (hm.ext H) (aL lb G)) G (by kernel_rfl) fun _ _ bm ae F=>?_))
  obtain rfl:=bm
  refine aN G G G false (fE ak) (mv 1 G (lo a8 (I.ext (X.t (D.t ae))) (O sd Ad nd cd) G G G (cl (vs:= [J sd Ad nd cd]) F (f6 (hn.ext F) (aL ld G)) G (by kernel_rfl) fun _ an bd av V=>?_)))
  obtain rfl:=bd
  refine aN G G G true (iY (by omega)) (pu (v:= By) G (aA (bB G (sr (pu (v:= .agg #[F0,S0]) G (pu (v:= .agg #[F0,S0]) G ?_))))))
  have E:=(p.ext (D.t (ae.t av)))
  refine so a8 E [F0,S0] V L G G G G fun _ au aa Z=>?_
  have f:=((U.ext (ae.t av)).vN aa)
  refine so a8 f [F0,S0] Z M G G G G fun _ ao ag aj=>(mv 1 G (aA (bD (cT (bC [.agg #[F0,S0],.agg #[F0,S0],v4 4] G ⟨⟨_,rfl,aW a8 (au.vN ag) [F0,S0] G (bq G) rfl⟩,⟨_,rfl,aW a8 ao [F0,S0] G (bq G) rfl⟩,rfl,Fo⟩ ?_)))))
  exact⟨_,rfl,⟨_,_,_,rfl,⟨_,_,_,_,rfl,(((Zr.zero (w:=an) (base:=w.heap.size)).updT E aa).updT f ag)⟩,⟨_,_,_,_,rfl,(((Zr.zero (w:=an) (base:=w.heap.size)).updT E aa).updT f ag)⟩,rfl,(fun _ h _=>lQ h)⟩,aj⟩
theorem FC {nb:Nat}{n:Int}(hb:b≤w.heap.size)(hx:Zi w sa Aa na ca x)(la:na≤67108864)(hm:Zi w sb Ab nb cb m)(lb:nb≤67108864)(hy:Zi w sf Af nf cf y)(lf:nf≤67108864)(hn:Zi w sd Ad nd cd n)(ld:nd≤67108864)(hm0:m≠0)(hn0:n≠0)(hd:¬(Int.gcd m n:Int)∣y-x):aQ aM 50 #[J sa Aa na ca,J sb Ab nb cb,J sf Af nf cf,J sd Ad nd cd] w (Gv w (TA (ZR b (0)) (ZR b (0)) (Is (v4 6)))):=by
 refine Calls.mono (R:=Gv w (TA (ZR w.heap.size (0)) (ZR w.heap.size (0)) (Is (v4 6)))) ?_ (Gv.imp (TA.imp (ZR.imp hb) (ZR.imp hb) Is.imp))
 have Lx:ln x≤67108864:=a6 hx.ln la
 have Lm:ln m≤67108864:=a6 hm.ln lb
 have Ly:ln y≤67108864:=a6 hy.ln lf
 have Ln:ln n≤67108864:=a6 hn.ln ld
 refine bP Tryz.func50 G (n:=62) G (bq G) (args:= [J sa Aa na ca,J sb Ab nb cb,J sf Af nf cf,J sd Ad nd cd]) (bH [(0,J sa Aa na ca),(1,J sb Ab nb cb),(2,J sf Af nf cf),(3,J sd Ad nd cd)] ⟨rfl,rfl,rfl,rfl,Fo⟩ (sr (bx (O sa Aa na ca) (Ext.refl w) G G G fun _ _ fi _ _ go=>(d5 (O sb Ab nb cb) go fi.lt G G G fun _ _ cg _ _ e8 ip=>(d5 (O sf Af nf cf) ip cg.lt G G G fun _ _ bg _ _ ch ij=>(d5 (O sd Ad nd cd) ij bg.lt G G G fun _ _ ab _ _ au gi=>(bF [F0,S0] gi ab.lt (fun _=>by kernel_rfl) G fun _ _ ba eh _ Z gx=>(bF [F0,S0] gx ba.lt (fun _=>by kernel_rfl) G fun _ _ br cn _ L gb=>(mv 1 G (aA (aH (sr (lo a8 (cg.ext (ch.t (au.t (Z.t L)))) (O sb Ab nb cb) G G G ?_)))))))))))))
 refine cl (vs:= [J sb Ab nb cb]) gb (f6 (hm.ext gb) (aL lb G)) G (by kernel_rfl) fun _ _ ig p fb=>?_
 obtain rfl:=ig
 refine aN G G G false (fE hm0) (mv 1 G (lo a8 (ab.ext (Z.t (L.t p))) (O sd Ad nd cd) G G G (cl (vs:= [J sd Ad nd cd]) fb (f6 (hn.ext fb) (aL ld G)) G (by kernel_rfl) fun _ _ ie q ar=>?_)))
 obtain rfl:=ie
 refine aN G G G false (fE hn0) (pu (v:= BY) G (aA (aV G (b8 (aK (sr (lo a8 (cg.ext (ch.t (au.t (Z.t (L.t (p.t q)))))) (O sb Ab nb cb) G G G (lo a8 (ab.ext (Z.t (L.t (p.t q)))) (O sd Ad nd cd) G G G (eL G G (vs:= [J sb Ab nb cb,J sd Ad nd cd]) (by kernel_rfl) (by decide) (sG ar.size (hm.ext ar) (aL lb G) (hn.ext ar) (aL ld G)) ?_)))))))))
 rintro _ _ ⟨gj,ik,cm,_,rfl,gy,W⟩
 have ib:ln ((Int.gcd m n:Int))≤67108864:=a6 (fK _ _) (Nat.max_le.2 ⟨a6 Lm (by decide),a6 Ln (by decide)⟩)
 have iy:ln (gj)≤67108865:=(cm.ln_u Lm Ln)
 have iw:ln (ik)≤67108865:=(cm.ln_v Lm Ln)
 refine eM ?_
 have gk:=ar.trans W
 obtain⟨_,_,_,rfl,⟨aa,ao,am,ah,rfl,ft⟩,⟨da,dt,fv,ck,rfl,_⟩,⟨fj,fq,el,fy,rfl,_⟩⟩:=gy
 refine mv 1 G (pu (v:= J aa ao am ah) G (pu (v:= J da dt fv ck) G (pu (v:= J fj fq el fy) G (bF [F0,S0] gk (br.ext (p.t (q.t W))).lt (fun _=>by kernel_rfl) G fun _ _ bi fp _ aj cz=>(bF [F0,S0] cz bi.lt (fun _=>by kernel_rfl) G fun _ _ bp fx _ Y fw=>(bF [F0,S0] fw bp.lt (fun _=>by kernel_rfl) G fun il _ cx ez _ H cj=>?_))))))
 have bc:=(bi.ext (Y.t H))
 refine so a8 bc (O aa ao am ah) cj fp G G G G fun _ fk M ej=>?_
 have bm:=((bp.ext H).vN M)
 refine so a8 bm (O da dt fv ck) ej fx G G G G fun _ _ I ei=>?_
 have bh:=((cx.vN M).vN I)
 refine so a8 bh (O fj fq el fy) ei ez G G G G fun iq fm X U=>(aA (aH ?_))
 have gt:ln (y-x)≤67108865:=a6 (gG Ly Lx) (by decide)
 refine cU bR 9 [6,7] [Is (J sf Af nf cf),Is (J sa Aa na ca),ZR w.heap.size (y-x),Is (J aa ao am ah),T2 (ZR w.heap.size (0)) (Is (v4 8)),T2 (ZR w.heap.size (0)) (Is (v4 8)),ZR w.heap.size (0),Is (v4 8),PR iq.heap.size 24 [F0,S0]] [[],[],[0,1],[],[2,3],[4],[5],[5],[]] [[],[],[0,1],[],[0,1,2,3],[0,1,2,3,4],[0,1,2,3,4,5],[0,1,2,3,4,5],[],[0,1,2,3,4,5,6,8],[0,1,2,3,4,5,6,7,8,9]] rfl
  (aF G G (aC G G ?_) (aF G G (aC G G ?_) (aF G G (aC G G ?_) (aF G G (aC G G ?_) (aF G G (aC G G ?_) (aF G G (aC G G ?_) (cV G G (cY G ?_) (cV G G (cY G ?_) (aF G G (aC G G ?_) cE))))))))) ?_
 ·exact fun _ ia=>aB (lo a8 (((((bg.ext (au.t (Z.t (L.t (p.t (q.t (W.t (aj.t (Y.t H))))))))).vN M).vN I).vN X).ext ia) (O sf Af nf cf) G G G (aE G aD G))
 ·exact fun _ io=>aB (lo a8 (((((fi.ext (e8.t (ch.t (au.t (Z.t (L.t (p.t (q.t (W.t (aj.t (Y.t H))))))))))).vN M).vN I).vN X).ext io) (O sa Aa na ca) G G G (aE G aD G))
 ·intro _ ep
  have f:=U.trans ep
  refine dk G G (dk G G (aB ?_))
  have iu:ln (y-x)≤67108865:=a6 (gG Ly Lx) (by decide)
  refine cl (vs:= [J sf Af nf cf,J sa Aa na ca]) f (oO f.size (hy.ext f) (aL lf G) (hx.ext f) (aL la G)) G (by kernel_rfl) fun _ _ gg cv ai=>?_
  obtain⟨_,_,_,_,rfl,ga⟩:=gg
  exact aE G cv ⟨_,_,_,_,rfl,ga⟩
 ·exact fun _ dr=>aB (lo a8 (((fk.vN I).vN X).ext dr) (O aa ao am ah) G G G (aE G aD G))
 ·intro _ bf
  have f:=U.trans bf
  refine aO G G fun _ _ cp _ dm=>?_
  obtain⟨fg,eg,ct,dl,rfl,V⟩:=cp
  have V:=V.ext dm
  refine dk G G (aB (cl (vs:= [J fg eg ct dl,J aa ao am ah]) f (OX f.size V.zi (V.le (aL gt G)) (((((ft.ext (aj.t (Y.t H))).updT bc M).updT bm I).updT bh X).ext bf).zi (ft.le (aL ib G)) (nM hm0) (DQ hd)) G (by kernel_rfl) fun _ _ co fo ai=>?_))
  obtain⟨_,_,rfl,⟨_,_,_,_,rfl,du⟩,rfl⟩:=co
  exact aE G fo ⟨_,_,rfl,⟨_,_,_,_,rfl,du⟩,rfl⟩
 ·intro _ _
  refine aO G G fun _ _ dn _ ee=>?_
  obtain⟨_,_,rfl,⟨_,_,_,_,rfl,an⟩,rfl⟩:=dn
  have an:=an.ext ee
  refine aB (mv 1 G ?_)
  exact aE G aD ⟨_,_,rfl,⟨_,_,_,_,rfl,an⟩,rfl⟩
 ·intro _ _
  refine aO G G fun _ _ dw _ ge=>?_
  obtain⟨_,_,rfl,⟨dv,fd,ci,fz,rfl,ag⟩,rfl⟩:=dw
  have ag:=ag.ext ge
  refine aB ?_
  exact⟨J dv fd ci fz,rfl,rfl,fun _=>by kernel_rfl,⟨_,_,_,_,rfl,ag⟩⟩
 ·intro _ _
  refine aO G G fun _ _ dd _ cy=>?_
  obtain⟨_,_,rfl,⟨_,_,_,_,rfl,bu⟩,rfl⟩:=dd
  have bu:=bu.ext cy
  refine aB ?_
  exact⟨v4 8,rfl,rfl,fun _=>by kernel_rfl,rfl⟩
 ·intro _ dc
  refine aB (dW G (z:= .agg #[F0,S0]) (vs:= [F0,S0]) (fun _=>by kernel_rfl) G fun _ _ nb=>?_)
  exact aE G nb.ext ⟨_,rfl,by rw [←nb.at_];exact dc.size,nb.bk⟩
 ·intro _ ak
  have f:=U.trans ak
  refine dk G G (dk G G (aO G G fun _ _ gf _ de=>?_))
  obtain⟨_,_,_,_,rfl,bo⟩:=gf
  have bo:=bo.ext de
  refine dk G G (aO G G fun _ _ ey _ dz=>?_)
  obtain⟨_,_,rfl,⟨_,_,_,_,rfl,az⟩,rfl⟩:=ey
  have az:=az.ext dz
  refine aO G G fun _ _ dy _ ew=>?_
  obtain⟨_,_,rfl,⟨_,_,_,_,rfl,bd⟩,rfl⟩:=dy
  have bd:=bd.ext ew
  refine aO G G fun _ _ dh _ dg=>?_
  obtain⟨cu,fa,fe,ef,rfl,av⟩:=dh
  have av:=av.ext dg
  refine dk G G (aO G G fun _ _ df _ fh=>?_)
  obtain⟨bt,rfl,o,F⟩:=df
  have F:=F.ext fh
  have ir:il<bt:=d4 fm.lt o
  have o:w.heap.size≤bt:=a6 U.size o
  refine aB (so a8 F (O cu fa fe ef) f o G G G G fun bj _ aw ai=>(mv 1 G (aR (cF (aK (aH (sr (mv 1 G (pu (v:= By) G (aA (bB G (sr (pu (v:= .agg #[F0,S0]) G ?_)))))))))))))
  refine pu (v:= .agg #[F0,S0]) G ?_
  have E:=((((((ba.ext (L.t (p.t (q.t (W.t (aj.t (Y.t H))))))).vN M).vN I).vN X).ext ak).vN aw)
  refine so a8 E [F0,S0] ai eh G G G G fun _ bz aq fc=>?_
  have D:=(((((((br.ext (p.t (q.t (W.t (aj.t (Y.t H)))))).vN M).vN I).vN X).ext ak).vN aw).vN aq)
  refine so a8 D [F0,S0] fc cn G G G G fun _ bv ae dx=>(mv 1 G (aA (bD (cT (bC [.agg #[F0,S0],.agg #[F0,S0],v4 6] G ⟨⟨_,rfl,aW a8 (bz.vN ae) [F0,S0] G (bq G) rfl⟩,⟨_,rfl,aW a8 bv [F0,S0] G (bq G) rfl⟩,rfl,Fo⟩ ?_)))))
  exact⟨_,rfl,⟨_,_,_,rfl,⟨_,_,_,_,rfl,(((Zr.zero (w:=bj) (base:=w.heap.size)).updT E aq).updT D ae)⟩,⟨_,_,_,_,rfl,(((Zr.zero (w:=bj) (base:=w.heap.size)).updT E aq).updT D ae)⟩,rfl,(fun _ h _=>lQ h)⟩,dx⟩
theorem yJ {nb:Nat}{n:Int}(hb:b≤w.heap.size)(hx:Zi w sa Aa na ca x)(la:na≤67108864)(hm:Zi w sb Ab nb cb m)(lb:nb≤67108864)(hy:Zi w sf Af nf cf y)(lf:nf≤67108864)(hn:Zi w sd Ad nd cd n)(ld:nd≤67108864)(hm0:m≠0)(hn0:n≠0)(d1:m∣x-s)(d2:n∣y-s):aQ aM 50 #[J sa Aa na ca,J sb Ab nb cb,J sf Af nf cf,J sd Ad nd cd] w (Gv w (TA (ZR b (s%(Int.lcm m n:Int))) (ZR b ((Int.lcm m n:Int))) (Is (v4 0)))):=by
 refine Calls.mono (R:=Gv w (TA (ZR w.heap.size (s%(Int.lcm m n:Int))) (ZR w.heap.size ((Int.lcm m n:Int))) (Is (v4 0)))) ?_ (Gv.imp (TA.imp (ZR.imp hb) (ZR.imp hb) Is.imp))
 have Lx:ln x≤67108864:=a6 hx.ln la
 have Lm:ln m≤67108864:=a6 hm.ln lb
 have Ly:ln y≤67108864:=a6 hy.ln lf
 have Ln:ln n≤67108864:=a6 hn.ln ld
 refine bP Tryz.func50 G (n:=62) G (bq G) (args:= [J sa Aa na ca,J sb Ab nb cb,J sf Af nf cf,J sd Ad nd cd]) (bH [(0,J sa Aa na ca),(1,J sb Ab nb cb),(2,J sf Af nf cf),(3,J sd Ad nd cd)] ⟨rfl,rfl,rfl,rfl,Fo⟩ (sr (bx (O sa Aa na ca) (Ext.refl w) G G G fun _ _ fw _ _ ou=>(d5 (O sb Ab nb cb) ou fw.lt G G G fun _ _ de _ _ e8 pn=>(d5 (O sf Af nf cf) pn de.lt G G G fun _ _ el _ _ cn oz=>(d5 (O sd Ad nd cd) oz el.lt G G G fun _ _ bo _ _ bj pe=>(bF [F0,S0] pe bo.lt (fun _=>by kernel_rfl) G fun oa _ ey fb _ ao ph=>(bF [F0,S0] ph ey.lt (fun _=>by kernel_rfl) G fun mi _ fg dz _ ak jz=>(mv 1 G (aA (aH (sr (lo a8 (de.ext (cn.t (bj.t (ao.t ak)))) (O sb Ab nb cb) G G G ?_)))))))))))))
 refine cl (vs:= [J sb Ab nb cb]) jz (f6 (hm.ext jz) (aL lb G)) G (by kernel_rfl) fun _ _ pk Z mu=>?_
 obtain rfl:=pk
 refine aN G G G false (fE hm0) (mv 1 G (lo a8 (bo.ext (ao.t (ak.t Z))) (O sd Ad nd cd) G G G (cl (vs:= [J sd Ad nd cd]) mu (f6 (hn.ext mu) (aL ld G)) G (by kernel_rfl) fun _ _ oy ae dx=>?_)))
 obtain rfl:=oy
 refine aN G G G false (fE hn0) (pu (v:= BY) G (aA (aV G (b8 (aK (sr (lo a8 (de.ext (cn.t (bj.t (ao.t (ak.t (Z.t ae)))))) (O sb Ab nb cb) G G G (lo a8 (bo.ext (ao.t (ak.t (Z.t ae)))) (O sd Ad nd cd) G G G (eL G G (vs:= [J sb Ab nb cb,J sd Ad nd cd]) (by kernel_rfl) (by decide) (sG dx.size (hm.ext dx) (aL lb G) (hn.ext dx) (aL ld G)) ?_)))))))))
 rintro _ _ ⟨E,pl,fh,_,rfl,ov,an⟩
 have ow:ln ((Int.gcd m n:Int))≤67108864:=a6 (fK _ _) (Nat.max_le.2 ⟨a6 Lm (by decide),a6 Ln (by decide)⟩)
 have fv:ln (E)≤67108865:=(fh.ln_u Lm Ln)
 have qe:ln (pl)≤67108865:=(fh.ln_v Lm Ln)
 refine eM ?_
 have ot:=dx.trans an
 obtain⟨_,_,_,rfl,⟨dg,df,da,dm,rfl,jt⟩,⟨ct,cv,dw,cp,rfl,kx⟩,⟨nl,oe,jc,on,rfl,_⟩⟩:=ov
 refine mv 1 G (pu (v:= J dg df da dm) G (pu (v:= J ct cv dw cp) G (pu (v:= J nl oe jc on) G (bF [F0,S0] ot (fg.ext (Z.t (ae.t an))).lt (fun _=>by kernel_rfl) G fun _ _ fc jr _ aq ky=>(bF [F0,S0] ky fc.lt (fun _=>by kernel_rfl) G fun _ _ ew jw _ ag om=>(bF [F0,S0] om ew.lt (fun _=>by kernel_rfl) G fun pm _ gg mr _ W kq=>?_))))))
 have dl:=(fc.ext (ag.t W))
 refine so a8 dl (O dg df da dm) kq jr G G G G fun _ np X jb=>?_
 have dc:=((ew.ext W).vN X)
 refine so a8 dc (O ct cv dw cp) jb jw G G G G fun _ mj aa ja=>?_
 have cz:=((gg.vN X).vN aa)
 refine so a8 cz (O nl oe jc on) ja mr G G G G fun pb nz Y bp=>(aA (aH ?_))
 have fp:ln (y-x)≤67108865:=a6 (gG Ly Lx) (by decide)
 have fo:ln ((y-x).tdiv (Int.gcd m n:Int))≤67108865:=a6 (fC _ _) fp
 refine cU bR 9 [6,7] [Is (J sf Af nf cf),Is (J sa Aa na ca),ZR w.heap.size (y-x),Is (J dg df da dm),T2 (ZR w.heap.size ((y-x).tdiv (Int.gcd m n:Int))) (Is (v4 0)),T2 (ZR w.heap.size ((y-x).tdiv (Int.gcd m n:Int))) (Is (v4 0)),ZR w.heap.size ((y-x).tdiv (Int.gcd m n:Int)),Is (v4 0),PR pb.heap.size 24 [F0,S0]] [[],[],[0,1],[],[2,3],[4],[5],[5],[]] [[],[],[0,1],[],[0,1,2,3],[0,1,2,3,4],[0,1,2,3,4,5],[0,1,2,3,4,5],[],[0,1,2,3,4,5,6,8],[0,1,2,3,4,5,6,7,8,9]] rfl
  (aF G G (aC G G ?_) (aF G G (aC G G ?_) (aF G G (aC G G ?_) (aF G G (aC G G ?_) (aF G G (aC G G ?_) (aF G G (aC G G ?_) (cV G G (cY G ?_) (cV G G (cY G ?_) (aF G G (aC G G ?_) cE))))))))) ?_
 ·exact fun _ pj=>aB (lo a8 (((((el.ext (bj.t (ao.t (ak.t (Z.t (ae.t (an.t (aq.t (ag.t W))))))))).vN X).vN aa).vN Y).ext pj) (O sf Af nf cf) G G G (aE G aD G))
 ·exact fun _ pg=>aB (lo a8 (((((fw.ext (e8.t (cn.t (bj.t (ao.t (ak.t (Z.t (ae.t (an.t (aq.t (ag.t W))))))))))).vN X).vN aa).vN Y).ext pg) (O sa Aa na ca) G G G (aE G aD G))
 ·intro _ ki
  have F:=bp.trans ki
  refine dk G G (dk G G (aB ?_))
  have py:ln (y-x)≤67108865:=a6 (gG Ly Lx) (by decide)
  refine cl (vs:= [J sf Af nf cf,J sa Aa na ca]) F (oO F.size (hy.ext F) (aL lf G) (hx.ext F) (aL la G)) G (by kernel_rfl) fun _ _ jj nj au=>?_
  obtain⟨_,_,_,_,rfl,gy⟩:=jj
  exact aE G nj ⟨_,_,_,_,rfl,gy⟩
 ·exact fun _ lu=>aB (lo a8 (((np.vN aa).vN Y).ext lu) (O dg df da dm) G G G (aE G aD G))
 ·intro _ ei
  have F:=bp.trans ei
  refine aO G G fun _ _ nh _ oc=>?_
  obtain⟨mz,ju,mo,jh,rfl,ck⟩:=nh
  have ck:=ck.ext oc
  refine dk G G (aB ?_)
  have pw:ln ((y-x).tdiv (Int.gcd m n:Int))≤67108865:=a6 (fC _ _) fp
  refine cl (vs:= [J mz ju mo jh,J dg df da dm]) F (qE F.size ck.zi (ck.le (aL fp G)) (((((jt.ext (aq.t (ag.t W))).updT dl X).updT dc aa).updT cz Y).ext ei).zi (jt.le (aL ow G)) (nM hm0) (DR (uY d1 d2))) G (by kernel_rfl) fun _ _ ng go au=>?_
  obtain⟨_,_,rfl,⟨_,_,_,_,rfl,lh⟩,rfl⟩:=ng
  exact aE G go ⟨_,_,rfl,⟨_,_,_,_,rfl,lh⟩,rfl⟩
 ·intro _ _
  refine aO G G fun _ _ gb _ mm=>?_
  obtain⟨_,_,rfl,⟨_,_,_,_,rfl,dr⟩,rfl⟩:=gb
  have dr:=dr.ext mm
  refine aB (mv 1 G ?_)
  exact aE G aD ⟨_,_,rfl,⟨_,_,_,_,rfl,dr⟩,rfl⟩
 ·intro _ _
  refine aO G G fun _ _ ji _ gf=>?_
  obtain⟨_,_,rfl,⟨jl,ij,lm,ll,rfl,dh⟩,rfl⟩:=ji
  have dh:=dh.ext gf
  refine aB ?_
  exact⟨J jl ij lm ll,rfl,rfl,fun _=>by kernel_rfl,⟨_,_,_,_,rfl,dh⟩⟩
 ·intro _ _
  refine aO G G fun _ _ ig _ jy=>?_
  obtain⟨_,_,rfl,⟨_,_,_,_,rfl,ej⟩,rfl⟩:=ig
  have ej:=ej.ext jy
  refine aB ?_
  exact⟨v4 0,rfl,rfl,fun _=>by kernel_rfl,rfl⟩
 ·intro _ gt
  refine aB (dW G (z:= .agg #[F0,S0]) (vs:= [F0,S0]) (fun _=>by kernel_rfl) G fun _ _ nb=>?_)
  exact aE G nb.ext ⟨_,rfl,by rw [←nb.at_];exact gt.size,nb.bk⟩
 ·intro _ H
  have F:=bp.trans H
  refine dk G G (dk G G (aO G G fun _ _ mh _ jx=>?_))
  obtain⟨_,_,_,_,rfl,ez⟩:=mh
  have ez:=ez.ext jx
  refine dk G G (aO G G fun _ _ ga _ kf=>?_)
  obtain⟨_,_,rfl,⟨_,_,_,_,rfl,fd⟩,rfl⟩:=ga
  have fd:=fd.ext kf
  refine aO G G fun _ _ iy _ mx=>?_
  obtain⟨_,_,rfl,⟨_,_,_,_,rfl,eh⟩,rfl⟩:=iy
  have eh:=eh.ext mx
  refine aO G G fun _ _ jq _ kc=>?_
  obtain⟨bt,bu,bz,cm,rfl,bv⟩:=jq
  have bv:=bv.ext kc
  refine dk G G (aO G G fun _ _ mg _ jp=>?_)
  obtain⟨fe,rfl,aw,aj⟩:=mg
  have aj:=aj.ext jp
  have pr:pm<fe:=d4 nz.lt aw
  have aw:w.heap.size≤fe:=a6 bp.size aw
  refine aB (so a8 aj (O bt bu bz cm) F aw G G G G fun _ fk I au=>(mv 1 G (aR (cF (aK (aH (sr (mv 1 G (pu (v:= BY) G (aA (aV G (b8 (aK ?_)))))))))))))
  refine sr (lo a8 ((((((de.ext (cn.t (bj.t (ao.t (ak.t (Z.t (ae.t (an.t (aq.t (ag.t W)))))))))).vN X).vN aa).vN Y).ext H).vN I) (O sb Ab nb cb) G G G (lo a8 ((((((bo.ext (ao.t (ak.t (Z.t (ae.t (an.t (aq.t (ag.t W)))))))).vN X).vN aa).vN Y).ext H).vN I) (O sd Ad nd cd) G G G ?_))
  have co:ln ((Int.lcm m n:Int))≤134217728:=a6 (q9 _ _) (Nat.add_le_add Lm Ln)
  refine cl (vs:= [J sb Ab nb cb,J sd Ad nd cd]) au (FB au.size (hm.ext au) (aL lb G) (hn.ext au) (aL ld G)) G (by kernel_rfl) fun _ _ oo M jg=>?_
  obtain⟨p,o,h,q,rfl,cj⟩:=oo
  have L:=(((((((fg.ext (Z.t (ae.t (an.t (aq.t (ag.t W)))))).vN X).vN aa).vN Y).ext H).vN I).ext M)
  refine so a8 L (O p o h q) jg dz G G G G fun cy az D U=>(aA (aH ?_))
  have fm:(Int.lcm m n:Int)≠0:=kX hm0 hn0
  have po:=(cj.updT L D).old
  have cu:ln (((y-x).tdiv (Int.gcd m n:Int))*E)≤134217730:=a6 (dR fo fv) (by decide)
  have dd:ln (m*(((y-x).tdiv (Int.gcd m n:Int))*E))≤201326594:=a6 (dR Lm cu) (by decide)
  have mf:ln (x+(m*(((y-x).tdiv (Int.gcd m n:Int))*E)))≤201326595:=a6 (gO Lx dd) (by decide)
  have qd:ln ((x+(m*(((y-x).tdiv (Int.gcd m n:Int))*E)))%(Int.lcm m n:Int))≤134217728:=a6 (bO fm) co
  refine cU bR 12 [10,11] [Is (J sa Aa na ca),Is (J sb Ab nb cb),Is (J bt bu bz cm),Is (J ct cv dw cp),ZR w.heap.size (((y-x).tdiv (Int.gcd m n:Int))*E),ZR w.heap.size (m*(((y-x).tdiv (Int.gcd m n:Int))*E)),ZR w.heap.size (x+(m*(((y-x).tdiv (Int.gcd m n:Int))*E))),Is (J p o h q),T2 (ZR cy.heap.size ((x+(m*(((y-x).tdiv (Int.gcd m n:Int))*E)))%(Int.lcm m n:Int))) (Is (v4 0)),T2 (ZR cy.heap.size ((x+(m*(((y-x).tdiv (Int.gcd m n:Int))*E)))%(Int.lcm m n:Int))) (Is (v4 0)),ZR cy.heap.size ((x+(m*(((y-x).tdiv (Int.gcd m n:Int))*E)))%(Int.lcm m n:Int)),Is (v4 0)] [[],[],[],[],[2,3],[1,4],[0,5],[],[6,7],[8],[9],[9]] [[],[],[],[],[2,3],[1,2,3,4],[0,1,2,3,4,5],[],[0,1,2,3,4,5,6,7],[0,1,2,3,4,5,6,7,8],[0,1,2,3,4,5,6,7,8,9],[0,1,2,3,4,5,6,7,8,9],[0,1,2,3,4,5,6,7,8,9,10]] rfl
   (aF G G (aC G G ?_) (aF G G (aC G G ?_) (aF G G (aC G G ?_) (aF G G (aC G G ?_) (aF G G (aC G G ?_) (aF G G (aC G G ?_) (aF G G (aC G G ?_) (aF G G (aC G G ?_) (aF G G (aC G G ?_) (aF G G (aC G G ?_) (cV G G (cY G ?_) (cV G G (cY G ?_) cE)))))))))))) ?_
  ·exact fun _ nk=>aB (lo a8 (((((((((fw.ext (e8.t (cn.t (bj.t (ao.t (ak.t (Z.t (ae.t (an.t (aq.t (ag.t W))))))))))).vN X).vN aa).vN Y).ext H).vN I).ext M).vN D).ext nk) (O sa Aa na ca) G G G (aE G aD G))
  ·exact fun _ kn=>aB (lo a8 (((((((((de.ext (cn.t (bj.t (ao.t (ak.t (Z.t (ae.t (an.t (aq.t (ag.t W)))))))))).vN X).vN aa).vN Y).ext H).vN I).ext M).vN D).ext kn) (O sb Ab nb cb) G G G (aE G aD G))
  ·exact fun _ ie=>aB (lo a8 (((fk.ext M).vN D).ext ie) (O bt bu bz cm) G G G (aE G aD G))
  ·exact fun _ fz=>aB (lo a8 ((((((mj.vN Y).ext H).vN I).ext M).vN D).ext fz) (O ct cv dw cp) G G G (aE G aD G))
  ·intro _ du
   have f:=U.trans du
   refine dk G G (dk G G (aB ?_))
   have pz:ln (((y-x).tdiv (Int.gcd m n:Int))*E)≤134217730:=a6 (dR fo fv) (by decide)
   refine cl (vs:= [J bt bu bz cm,J ct cv dw cp]) f (mL f.size ((((bv.updT aj I).ext M).updT L D).ext du).zi (bv.le (aL fo G)) (((((((((kx.ext (aq.t (ag.t W))).updT dl X).updT dc aa).updT cz Y).ext H).updT aj I).ext M).updT L D).ext du).zi (kx.le (aL fv G))) G (by kernel_rfl) fun _ _ ni oq bd=>?_
   obtain⟨_,_,_,_,rfl,ko⟩:=ni
   exact aE G oq ⟨_,_,_,_,rfl,ko⟩
  ·intro _ jf
   have f:=U.trans jf
   refine dk G G (aO G G fun _ _ mp _ jk=>?_)
   obtain⟨kz,mt,nt,mb,rfl,ch⟩:=mp
   have ch:=ch.ext jk
   refine aB ?_
   have px:ln (m*(((y-x).tdiv (Int.gcd m n:Int))*E))≤201326594:=a6 (dR Lm cu) (by decide)
   refine cl (vs:= [J sb Ab nb cb,J kz mt nt mb]) f (mL f.size (hm.ext f) (aL lb G) ch.zi (ch.le (aL cu G))) G (by kernel_rfl) fun _ _ kk lv bd=>?_
   obtain⟨_,_,_,_,rfl,iq⟩:=kk
   exact aE G lv ⟨_,_,_,_,rfl,iq⟩
  ·intro _ mn
   have f:=U.trans mn
   refine dk G G (aO G G fun _ _ od _ ml=>?_)
   obtain⟨my,gx,ob,ny,rfl,cg⟩:=od
   have cg:=cg.ext ml
   refine aB ?_
   have pp:ln (x+(m*(((y-x).tdiv (Int.gcd m n:Int))*E)))≤201326595:=a6 (gO Lx dd) (by decide)
   refine cl (vs:= [J sa Aa na ca,J my gx ob ny]) f (yD f.size (hx.ext f) (aL la G) cg.zi (cg.le (aL dd G))) G (by kernel_rfl) fun _ _ kv ma bd=>?_
   obtain⟨_,_,_,_,rfl,ge⟩:=kv
   exact aE G ma ⟨_,_,_,_,rfl,ge⟩
  ·exact fun _ lg=>aB (lo a8 (az.ext lg) (O p o h q) G G G (aE G aD G))
  ·intro _ dn
   have f:=U.trans dn
   refine aO G G fun _ _ ip _ mw=>?_
   obtain⟨ir,nu,io,jv,rfl,br⟩:=ip
   have br:=br.ext mw
   refine dk G G (aB ?_)
   have pt:ln ((x+(m*(((y-x).tdiv (Int.gcd m n:Int))*E)))%(Int.lcm m n:Int))≤134217728:=a6 (bO fm) co
   refine cl (vs:= [J ir nu io jv,J p o h q]) f (oP dn.size br.zi (br.le (aL mf G)) ((cj.updT L D).ext dn).zi (cj.le (aL co G)) fm) G (by kernel_rfl) fun _ _ ku oh bd=>?_
   obtain⟨_,_,rfl,⟨_,_,_,_,rfl,lj⟩,rfl⟩:=ku
   exact aE G oh ⟨_,_,rfl,⟨_,_,_,_,rfl,lj⟩,rfl⟩
  ·intro _ _
   refine aO G G fun _ _ gi _ jo=>?_
   obtain⟨_,_,rfl,⟨_,_,_,_,rfl,cx⟩,rfl⟩:=gi
   have cx:=cx.ext jo
   refine aB (mv 1 G ?_)
   exact aE G aD ⟨_,_,rfl,⟨_,_,_,_,rfl,cx⟩,rfl⟩
  ·intro _ _
   refine aO G G fun _ _ oi _ kt=>?_
   obtain⟨_,_,rfl,⟨je,gj,fy,jd,rfl,dv⟩,rfl⟩:=oi
   have dv:=dv.ext kt
   refine aB ?_
   exact⟨J je gj fy jd,rfl,rfl,fun _=>by kernel_rfl,⟨_,_,_,_,rfl,dv⟩⟩
  ·intro _ _
   refine aO G G fun _ _ kj _ fx=>?_
   obtain⟨_,_,rfl,⟨_,_,_,_,rfl,ee⟩,rfl⟩:=kj
   have ee:=ee.ext fx
   refine aB ?_
   exact⟨v4 0,rfl,rfl,fun _=>by kernel_rfl,rfl⟩
  ·intro _ av
   have f:=U.trans av
   refine dk G G (dk G G (dk G G (dk G G (aO G G fun _ _ mq _ nx=>?_))))
   obtain⟨_,_,_,_,rfl,ep⟩:=mq
   have ep:=ep.ext nx
   refine aO G G fun _ _ jm _ iu=>?_
   obtain⟨_,_,_,_,rfl,fa⟩:=jm
   have fa:=fa.ext iu
   refine aO G G fun _ _ gk _ ia=>?_
   obtain⟨_,_,_,_,rfl,ef⟩:=gk
   have ef:=ef.ext ia
   refine dk G G (aO G G fun _ _ nw _ iz=>?_)
   obtain⟨_,_,rfl,⟨_,_,_,_,rfl,bc⟩,rfl⟩:=nw
   have bc:=bc.ext iz
   have nw_z413:=bc.new
   replace bc:=bc.mono U.size
   refine aO G G fun _ _ ib _ iw=>?_
   obtain⟨_,_,rfl,⟨_,_,_,_,rfl,ba⟩,rfl⟩:=ib
   have ba:=ba.ext iw
   have nw_z420:=ba.new
   replace ba:=ba.mono U.size
   refine aO G G fun _ _ ix _ kw=>?_
   obtain⟨am,ai,ab,ah,rfl,ar⟩:=ix
   have ar:=ar.ext kw
   have nw_z426:=ar.new
   replace ar:=ar.mono U.size
   refine dk G G (aB ?_)
   have bm:=(((((((((ey.ext (ak.t (Z.t (ae.t (an.t (aq.t (ag.t W))))))).vN X).vN aa).vN Y).ext H).vN I).ext M).vN D).ext av)
   refine so a8 bm (O am ai ab ah) f fb G G G G fun eg dt bf bd=>(aR (cF (aK (aH ?_))))
   have pd:=T1 po nw_z426
   refine bH [(8,no oa 0),(9,no mi 0)] ⟨rfl,rfl,Fo⟩ ?_
   obtain⟨dy,hv,V⟩:∃v,v=eg.drew∧Ext eg v:=⟨_,rfl,aD.drew⟩
   have lp:=bd.trans V
   have bh:=(dt.ext V)
   obtain⟨ik,fj,fq,bg,_⟩:=eV (P:=aM) (us:= (O am ai ab ah)) (off:=0) a8 G bh (bq G) G (O am ai ab ah) rfl
   have me:=bg.ext lp fb
   have bi:=((((az.ext av).vN bf).ext V).vN bg)
   obtain⟨md,ft,fi,ci,_⟩:=eV (P:=aM) (us:= (O p o h q)) (off:=0) a8 G bi (bq G) G (O p o h q) rfl
   have il:=ci.ext me dz
   refine gI bR (w:=dy) [J am ai ab ah,J p o h q,undef,undef,I0] [dy,ik,md] [2,3] [[],[],[0],[1],[]] [[],[],[0],[0,1,2],[0,1,2,3]] [(0,0),(1,0),(1,1),(2,0),(3,1),(4,2)] G hv ?_ ?_
   ·refine aX _ G G G G G (cB G (aW a8 (dt.ext V) (O am ai ab ah) G (bq G) G)) (aX _ G G G G G (cB G (aW a8 (((az.ext av).vN bf).ext V) (O p o h q) G (bq G) G)) (aX _ G G G G G (cB G (aW a8 ((((az.ext av).vN bf).ext V).vN bg) (O p o h q) G (bq G) G)) (f7 _ G G G G G (eR G G fj) (f7 _ G G G G G (eR G G ft) (aX _ G G G G G (kL G) ?_)))))
    exact gH
   clear hv
   refine fU [(8,no oa 0),(9,no mi 0),(10,v4 0)] ⟨rfl,rfl,rfl,Fo⟩ (aK (bD (bC [J am ai ab ah,J p o h q,I0] G ⟨⟨_,rfl,aW a8 (fq.vN ci) (O am ai ab ah) G (bq G) rfl⟩,⟨_,rfl,aW a8 fi (O p o h q) G (bq G) rfl⟩,rfl,Fo⟩ ?_)))
   exact⟨_,rfl,⟨_,_,_,rfl,⟨_,_,_,_,rfl,(((((ar.updT bm bf).ext V).updT bh bg).updT bi ci)).cast (S5 fh hm0 d1 d2)⟩,⟨_,_,_,_,rfl,((((((cj.updT L D).ext av).updT bm bf).ext V).updT bh bg).updT bi ci)⟩,rfl,pd⟩,il⟩
theorem R6:∀(n:Nat) (r0 r1 m0 m1:Int),r1.natAbs≤n→ExtI x y r0 r1 m0 m1→∃r a b,ExtI x y r 0 a b:=by
 intro n
 induction n with
 | zero=>
  intro r0 r1 m0 m1 h hI
  obtain rfl:r1=0:=by omega
  exact⟨_,_,_,hI⟩
 | succ n ih=>
  intro r0 r1 m0 m1 h hI
  by_cases hr:r1=0
  ·subst hr;exact⟨_,_,_,hI⟩
  ·exact ih _ _ _ _ (by have:=pQ (x:=r0) hr;omega) (hI.step hr)
theorem vE (x y:Int):∃u v,Bez x y u v:=by
 by_cases f:y=0
 ·exact⟨_,_,Bez.ofZero f⟩
 ·obtain⟨r,a,b,h⟩:=R6 _ _ _ _ _ (aS _) (ExtI.init (x:=x) f)
  exact⟨_,_,(h.done f G).2.2.2.2.2⟩
def bV (zs:List Int):Int:=zs.foldl (fun l z=>(Int.lcm l z:Int)) 1
theorem ED (zs:List Int)(z:Int):bV (zs++ [z])=(Int.lcm (bV zs) z:Int):=by unfold bV;rw [List.foldl_append];rfl
theorem hJ (h:k<zs.length):(Int.lcm (bV (zs.take k)) (zs.getD k 0):Int)=bV (zs.take (k+1)):=by rw [oM (d:=0) h,ED]
theorem NN (zs:List Int)(k:Nat):ln (bV (zs.take k))≤1+((zs.take k).map ln).sum:=by
 induction k with
 | zero=>rw [List.take_zero];exact rY (by decide) (by decide)
 | succ k ih=>
  by_cases hk:k<zs.length
  ·rw [←hJ hk,oM (d:=0) hk,List.map_append,List.sum_append]
   refine a6 (q9 _ _) ?_
   simp only [kH,List.map_nil,List.sum_cons,List.sum_nil]
   omega
  ·rw [List.take_of_length_le (by omega)] at ih⊢;exact ih
theorem KG (zs:List Int)(k:Nat):((zs.take k).map ln).sum≤(zs.map ln).sum:=by
 have e:(zs.map ln).sum=((zs.take k).map ln).sum+((zs.drop k).map ln).sum:=by rw [←List.sum_append,←List.map_append,r9]
 omega
theorem g0 (h:(zs.map ln).sum≤N)(k:Nat):ln (bV (zs.take k))≤N+1:=by
 have f:=NN zs k
 have o:=KG zs k
 omega
theorem kP (h:∀i,i<zs.length→zs.getD i 0≠0)(k:Nat):bV (zs.take k)≠0:=by
 induction k with
 | zero=>rw [List.take_zero];decide
 | succ k ih=>
  by_cases hk:k<zs.length
  ·rw [←hJ hk];exact kX ih (h k hk)
  ·rw [List.take_of_length_le (by omega)] at ih⊢;exact ih
theorem NW (h:∀i,i<zs.length→zs.getD i 0≠0):0<bV zs:=by
 have f:=kP h zs.length
 rw [List.take_length] at f
 have o:0≤bV zs:=by
  rcases zs.eq_nil_or_concat with rfl | ⟨r,a,rfl⟩
  ·decide
  ·rw [List.concat_eq_append,ED];omega
 omega
theorem FP:∀i,i<k→i<zs.length→zs.getD i 0∣bV (zs.take k):=by
 induction k with
 | zero=>intro i hi;omega
 | succ k ih=>
  intro i hi hl
  by_cases hk:k<zs.length
  ·rw [←hJ hk]
   by_cases hik:i=k
   ·subst hik;exact Int.dvd_lcm_right _ _
   ·exact Int.dvd_trans (ih i (by omega) hl) (Int.dvd_lcm_left _ _)
  ·have:=ih i (by omega) hl
   rw [List.take_of_length_le (by omega)] at this⊢;exact this
theorem yO (s l:Int):l∣s%l-s:=by
 have h:=Int.mul_ediv_add_emod s l
 exact⟨-(s/l),by rw [Int.mul_neg];omega⟩
theorem G5 {ms:List Int}(hk:k<ms.length)(hs:∀i,i<k→ms.getD i 0∣rs.getD i 0-s)(h0:∀i,i<ms.length→ms.getD i 0≠0)(hd:(Int.gcd (bV (ms.take k)) (ms.getD k 0):Int)∣rs.getD k 0-s%bV (ms.take k)):∃s',bV (ms.take k)∣s%bV (ms.take k)-s'∧ms.getD k 0∣rs.getD k 0-s'∧∀i,i<k+1→ms.getD i 0∣rs.getD i 0-s':=by
 have hn:=kP h0 k
 have hb:∃u v,Bez (bV (ms.take k)) (ms.getD k 0) u v:=vE _ _
 obtain⟨u,v,hb⟩:=hb
 obtain⟨s',h,o⟩:=S4 hn hb hd
 refine⟨s',h,o,fun i hi=>?_⟩
 by_cases f:i=k
 ·subst f;exact o
 ·have p:=hs i (by omega)
  have D:ms.getD i 0∣s%bV (ms.take k)-s':=Int.dvd_trans (FP i (by omega) (by omega)) h
  have q:ms.getD i 0∣s%bV (ms.take k)-s:=Int.dvd_trans (FP i (by omega) (by omega)) (yO _ _)
  have e:rs.getD i 0-s'=(rs.getD i 0-s)+((s%bV (ms.take k)-s')-(s%bV (ms.take k)-s)):=by omega
  rw [e];exact Int.dvd_add p (Int.dvd_sub D q)
theorem QS (hb:b≤w.heap.size){ms:List Int}(hr:Zl w A n cap rs ks)(hm:Zl w B n cap2 ms js)(hn:n≤2097152)(hkb:∀i,ks.getD i 0≤16777216)(hjb:∀i,js.getD i 0≤16777216)(hsum:(ms.map ln).sum≤1048576)(hi0:i0<n∧ms.getD i0 0=0):aQ aM 51 #[AT A n cap,AT B n cap2] w (Gv w (TA (ZR b 0) (ZR b 0) (Is (v4 4)))):=by
 refine bP Tryz.func51 G (n:=58) G (bq G) (args:= [AT A n cap,AT B n cap2]) (bH [(0,AT A n cap),(1,AT B n cap2)] ⟨rfl,rfl,Fo⟩ (sr (al [F0,S0] (Ext.refl w) (fun _=>by kernel_rfl) G fun g1 _ ab ba _ E=>(bF [F0,S0] E ab.lt (fun _=>by kernel_rfl) G fun g6 v7 aq ak _ e8 U=>(mv 1 G (aA (aH (sr (mv 1 G (pu (v:= v4 n) G (mv 1 G (pu (v:= v4 n) G (aN G G G false (iI (a:=n) (b:=n) G G) ?_)))))))))))))
 refine aA (aV G (b8 (aK (aH (sr (mv 1 G (pu (v:= v4 n) G (mv 1 G (aA (bG ?_))))))))))
 refine cQ (T:=a7×Nat)
  (fun⟨wr,k⟩=> [(0,AT A n cap),(1,AT B n cap2),(4,no g1 0),(5,no g6 0),(6,v4 0),(17,AT B n cap2),(18,v4 n),(19,v4 k)])
  (fun⟨wr,k⟩=>wr)
  (fun⟨wr,k⟩=>(Ext w wr)∧(k≤n)∧(∀i,i<k→ms.getD i 0≠0)∧(Bk wr g1 24 [F0,S0])∧(Bk wr g6 24 [F0,S0]))
  (fun⟨wr,k⟩=>n-k)
  (⟨v7,0⟩:a7×Nat) ⟨U,bJ _,(fun i hi=>by omega),(ab.ext e8),aq⟩ G ⟨rfl,rfl,rfl,rfl,rfl,rfl,rfl,rfl,Fo⟩ ?_
 rintro⟨wr,k⟩ ⟨E,_,hz,b_4,b_5⟩
 refine cP [(0,AT A n cap),(1,AT B n cap2),(4,no g1 0),(5,no g6 0),(6,v4 0),(17,AT B n cap2),(18,v4 n),(19,v4 k)] wr G ⟨rfl,rfl,rfl,rfl,rfl,rfl,rfl,rfl,Fo⟩ (aH ?_)
 by_cases bg:k<n
 ·refine aJ (aN G G G true (cG (a:=k) (b:=n) G G) (aA (aH (bB G (b8 (aK (aH (bG (sr ?_)))))))))
  obtain⟨ao,o,f,p,X,W,M⟩:=hm.at (i:=k) (by omega)
  refine bI G G G d9 a8.size k G ao X (aP G G (W _ E _ _ a8) (bF [F0,S0] E b_5.lt (fun _=>by kernel_rfl) G fun _ _ ah ai _ I U=>(so a8 ah [.bool o,AT f (js.getD k 0) p] U ai G G G G fun _ L H F=>(aA (aH ?_)))))
  by_cases Z:ms.getD k 0=0
  ·refine aJ (lo a8 L [.bool o,AT f (js.getD k 0) p] G G G (cl (vs:= [.agg #[.bool o,AT f (js.getD k 0) p]]) F (f6 (M.ext F) (a6 (hjb k) (by decide))) G (by kernel_rfl) fun _ ae ar aj Y=>?_))
   obtain rfl:=ar
   refine aN G G G true (iY Z) (aA (bB G (sr (pu (v:= .agg #[F0,S0]) G (pu (v:= .agg #[F0,S0]) G ?_)))))
   have D:=(((b_4.ext I).vN H).ext aj)
   refine so a8 D [F0,S0] Y ba G G G G fun _ an V bc=>?_
   have q:=((((b_5.ext I).vN H).ext aj).vN V)
   refine so a8 q [F0,S0] bc ak G G G G fun _ am aa az=>(mv 1 G (aA (bD (iB (cT (nQ (iB (cT (bC [.agg #[F0,S0],.agg #[F0,S0],v4 4] G ⟨⟨_,rfl,aW a8 (an.vN aa) [F0,S0] G (bq G) rfl⟩,⟨_,rfl,aW a8 am [F0,S0] G (bq G) rfl⟩,rfl,Fo⟩ ?_)))))))))
   exact⟨_,rfl,⟨_,_,_,rfl,⟨_,_,_,_,rfl,((((Zr.zero (w:=ae) (base:=w.heap.size)).updT D V).updT q aa)).mono hb⟩,⟨_,_,_,_,rfl,((((Zr.zero (w:=ae) (base:=w.heap.size)).updT D V).updT q aa)).mono hb⟩,rfl,fun _ h _=>lQ h⟩,az⟩
  ·refine aJ (lo a8 L [.bool o,AT f (js.getD k 0) p] G G G (cl (vs:= [.agg #[.bool o,AT f (js.getD k 0) p]]) F (f6 (M.ext F) (a6 (hjb k) (by decide))) G (by kernel_rfl) fun _ aw av ag Y=>?_))
   obtain rfl:=av
   refine aN G G G false (fE Z) (aA (aV G (b8 (bM (aK (aJ (aT G G G ((k+1:Nat):Int) (bK (a:=k) (b:=1) G G) (mv 1 G (aR (bX (⟨aw,k+1⟩:a7×Nat) ⟨Y,(by omega),(fun i hi=>if h:i<k then hz i h else (show i=k by omega)▸Z),(((b_4.ext I).vN H).ext ag),(((b_5.ext I).vN H).ext ag)⟩ (show n-(k+1)<n-k by omega) G ⟨rfl,rfl,rfl,rfl,rfl,rfl,rfl,rfl,Fo⟩))))))))))
 ·exact absurd hi0.2 (hz i0 (by omega))
theorem QU (hb:b≤w.heap.size){ms:List Int}(hr:Zl w A n cap rs ks)(hm:Zl w B n cap2 ms js)(hn:n≤2097152)(hkb:∀i,ks.getD i 0≤16777216)(hjb:∀i,js.getD i 0≤16777216)(hsum:(ms.map ln).sum≤1048576)(h0:∀i,i<ms.length→ms.getD i 0≠0)(hno:¬ ∃s,∀i,i<n→ms.getD i 0∣rs.getD i 0-s):aQ aM 51 #[AT A n cap,AT B n cap2] w (Gv w (TA (ZR b 0) (ZR b 0) (Is (v4 6)))):=by
 refine bP Tryz.func51 G (n:=58) G (bq G) (args:= [AT A n cap,AT B n cap2]) (bH [(0,AT A n cap),(1,AT B n cap2)] ⟨rfl,rfl,Fo⟩ (sr (al [F0,S0] (Ext.refl w) (fun _=>by kernel_rfl) G fun g1 _ mg gk _ p=>(bF [F0,S0] p mg.lt (fun _=>by kernel_rfl) G fun g6 v7 my I _ e8 f=>(mv 1 G (aA (aH (sr (mv 1 G (pu (v:= v4 n) G (mv 1 G (pu (v:= v4 n) G (aN G G G false (iI (a:=n) (b:=n) G G) ?_)))))))))))))
 refine aA (aV G (b8 (aK (aH (sr (mv 1 G (pu (v:= v4 n) G (mv 1 G (aA (bG ?_))))))))))
 refine cQ (T:=a7×Nat)
  (fun⟨wr,k⟩=> [(0,AT A n cap),(1,AT B n cap2),(4,no g1 0),(5,no g6 0),(6,v4 0),(17,AT B n cap2),(18,v4 n),(19,v4 k)])
  (fun⟨wr,k⟩=>wr)
  (fun⟨wr,k⟩=>(Ext w wr)∧(k≤n)∧(∀i,i<k→ms.getD i 0≠0)∧(Bk wr g1 24 [F0,S0])∧(Bk wr g6 24 [F0,S0]))
  (fun⟨wr,k⟩=>n-k)
  (⟨v7,0⟩:a7×Nat) ⟨f,bJ _,(fun i hi=>by omega),(mg.ext e8),my⟩ G ⟨rfl,rfl,rfl,rfl,rfl,rfl,rfl,rfl,Fo⟩ ?_
 rintro⟨wr,k⟩ ⟨p,_,hz,b_4,b_5⟩
 refine cP [(0,AT A n cap),(1,AT B n cap2),(4,no g1 0),(5,no g6 0),(6,v4 0),(17,AT B n cap2),(18,v4 n),(19,v4 k)] wr G ⟨rfl,rfl,rfl,rfl,rfl,rfl,rfl,rfl,Fo⟩ (aH ?_)
 by_cases nx:k<n
 ·refine aJ (aN G G G true (cG (a:=k) (b:=n) G G) (aA (aH (bB G (b8 (aK (aH (bG (sr ?_)))))))))
  obtain⟨ko,X,L,Y,gy,gt,ki⟩:=hm.at (i:=k) (by omega)
  refine bI G G G d9 a8.size k G ko gy (aP G G (gt _ p _ _ a8) (bF [F0,S0] p b_5.lt (fun _=>by kernel_rfl) G fun _ _ jb jc _ iq f=>(so a8 jb [.bool X,AT L (js.getD k 0) Y] f jc G G G G fun _ ik mn q=>(aA (aH ?_)))))
  have me:ms.getD k 0≠0:=h0 k (by rw [hm.len];omega)
  refine aJ (lo a8 ik [.bool X,AT L (js.getD k 0) Y] G G G (cl (vs:= [.agg #[.bool X,AT L (js.getD k 0) Y]]) q (f6 (ki.ext q) (a6 (hjb k) (by decide))) G (by kernel_rfl) fun _ mt mq kc av=>?_))
  obtain rfl:=mq
  refine aN G G G false (fE me) (aA (aV G (b8 (bM (aK (aJ (aT G G G ((k+1:Nat):Int) (bK (a:=k) (b:=1) G G) (mv 1 G (aR (bX (⟨mt,k+1⟩:a7×Nat) ⟨av,(by omega),(fun i hi=>if h:i<k then hz i h else (show i=k by omega)▸me),(((b_4.ext iq).vN mn).ext kc),(((b_5.ext iq).vN mn).ext kc)⟩ (show n-(k+1)<n-k by omega) G ⟨rfl,rfl,rfl,rfl,rfl,rfl,rfl,rfl,Fo⟩))))))))))
 ·refine aJ (aN G G G false (cL (a:=k) (b:=n) G G) (aA (aH (aV G (cR (cK (cN (cO (aK (sr (cl (vs:= [v4 1]) p (lS p.size (by decide) (by decide)) G (by kernel_rfl) fun _ _ mu ix f=>?_)))))))))))
  obtain⟨jk,kw,lg,jh,rfl,nl⟩:=mu
  have co:=(b_5.ext ix)
  refine so a8 co (O jk kw lg jh) f I G G G G fun mz ml jl q=>(aA (aH (sr (mv 1 G (pu (v:= v4 n) G (mv 1 G (aA (bG ?_))))))))
  refine cQ (T:=a7×Nat×Int×ZC×ZC)
   (fun⟨wq,j,s,kr,km⟩=> [(0,AT A n cap),(1,AT B n cap2),(4,no g1 0),(5,no g6 0),(6,v4 0),(31,v4 n),(32,v4 j)])
   (fun⟨wq,j,s,kr,km⟩=>wq)
   (fun⟨wq,j,s,kr,km⟩=>(Ext w wq)∧(j≤n)∧(∀i,i<j→ms.getD i 0∣rs.getD i 0-s)∧(Bk wq g1 24 (O kr.s kr.A kr.n kr.c))∧(Bk wq g6 24 (O km.s km.A km.n km.c))∧(Zr wq w.heap.size kr.s kr.A kr.n kr.c (s%bV (ms.take j)))∧(Zr wq w.heap.size km.s km.A km.n km.c (bV (ms.take j)))∧(∀g,dH (J kr.s kr.A kr.n kr.c) g→dH (J km.s km.A km.n km.c) g→False))
   (fun⟨wq,j,s,kr,km⟩=>n-j)
   (⟨mz,0,0,⟨false,none,0,0⟩,⟨jk,kw,lg,jh⟩⟩:a7×Nat×Int×ZC×ZC) ⟨q,bJ _,(fun i hi=>by omega),((b_4.ext ix).vN jl),ml,(Zr.zero.cast (by rw [List.take_zero];exact (Int.emod_one _).symm)),((nl.updT co jl)).cast (by rfl),(fun _ h _=>lQ h)⟩ G ⟨rfl,rfl,rfl,rfl,rfl,rfl,rfl,Fo⟩ ?_
  rintro⟨wq,j,s,kr,km⟩ ⟨p,hj,hs,b_4,b_5,zr,zm,_⟩
  refine cP [(0,AT A n cap),(1,AT B n cap2),(4,no g1 0),(5,no g6 0),(6,v4 0),(31,v4 n),(32,v4 j)] wq G ⟨rfl,rfl,rfl,rfl,rfl,rfl,rfl,Fo⟩ (aH ?_)
  by_cases nt:j<n
  ·refine aJ (aN G G G true (cG (a:=j) (b:=n) G G) (aA (aH (bB G (b8 (aK (aH (bG (sr (mv 2 G (aA (aH ?_))))))))))))
   have bt:bV (ms.take j)≠0:=kP h0 j
   by_cases hd:(Int.gcd (bV (ms.take j)) (ms.getD j 0):Int)∣rs.getD j 0-s%bV (ms.take j)
   ·obtain⟨s',d1,d2,np⟩:=G5 (by rw [hm.len];omega) hs h0 hd
    obtain⟨el,cn,fd,cj,fq,fw,jv⟩:=hr.at (i:=j) (by omega)
    obtain⟨ei,fe,dy,dr,go,fk,kt⟩:=hm.at (i:=j) (by omega)
    have mp:ln ((Int.lcm (bV (ms.take j)) (ms.getD j 0):Int))≤1048577:=(by rw [hJ (by rw [hm.len];omega)];exact g0 hsum (j+1))
    have ob:ln (s'%(Int.lcm (bV (ms.take j)) (ms.getD j 0):Int))≤1048577:=a6 (bO (kX bt (h0 j (by rw [hm.len];omega)))) mp
    refine uX bR 15 [12,13,14] [] [(12,11,0),(13,11,1)] [Is (J kr.s kr.A kr.n kr.c),Is (J km.s km.A km.n km.c),Is (AT A n cap),Is (v4 j),Is (.pointer (some el)),Is (.agg #[.bool cn,AT fd (ks.getD j 0) cj]),Is (AT B n cap2),Is (v4 j),Is (.pointer (some ei)),Is (.agg #[.bool fe,AT dy (js.getD j 0) dr]),TA (ZR w.heap.size (s'%(Int.lcm (bV (ms.take j)) (ms.getD j 0):Int))) (ZR w.heap.size ((Int.lcm (bV (ms.take j)) (ms.getD j 0):Int))) (Is (v4 0)),TA (ZR w.heap.size (s'%(Int.lcm (bV (ms.take j)) (ms.getD j 0):Int))) (ZR w.heap.size ((Int.lcm (bV (ms.take j)) (ms.getD j 0):Int))) (Is (v4 0)),ZR w.heap.size (s'%(Int.lcm (bV (ms.take j)) (ms.getD j 0):Int)),ZR w.heap.size ((Int.lcm (bV (ms.take j)) (ms.getD j 0):Int)),Is (v4 0)] [[],[],[],[],[2,3],[4],[],[],[6,7],[8],[0,1,5,9],[10],[11],[11],[11]] [[],[],[],[],[2,3],[2,3,4],[],[],[6,7],[6,7,8],[0,1,2,3,4,5,6,7,8,9],[0,1,2,3,4,5,6,7,8,9,10],[0,1,2,3,4,5,6,7,8,9,10,11],[0,1,2,3,4,5,6,7,8,9,10,11],[0,1,2,3,4,5,6,7,8,9,10,11],[0,1,2,3,4,5,6,7,8,9,10,11,12],[0,1,2,3,4,5,6,7,8,9,10,11,12,13,15],[0,1,2,3,4,5,6,7,8,9,10,11,12,13,14,15,16]] G G Fo (qA ⟨_,_,rfl,rfl,rfl⟩ (qA ⟨_,_,rfl,rfl,rfl⟩ uK))
     (aF G G (aC G G ?_) (aF G G (aC G G ?_) (aF G G (aC G G ?_) (aF G G (aC G G ?_) (aF G G (aC G G ?_) (aF G G (aC G G ?_) (aF G G (aC G G ?_) (aF G G (aC G G ?_) (aF G G (aC G G ?_) (aF G G (aC G G ?_) (aF G G (aC G G ?_) (aF G G (aC G G ?_) (cV G G (cY G ?_) (cV G G (cY G ?_) (cV G G (cY G ?_) cE))))))))))))))) ?_
    ·exact fun _ nj=>aB (lo a8 (b_4.ext nj) (O kr.s kr.A kr.n kr.c) G G G (aE G aD G))
    ·exact fun _ mo=>aB (lo a8 (b_5.ext mo) (O km.s km.A km.n km.c) G G G (aE G aD G))
    ·exact fun _ _=>aB (mv 1 G (aE G aD G))
    ·exact fun _ _=>aB (mv 1 G (aE G aD G))
    ·exact fun _ _=>dk G G (dk G G (aB (bI G G G d9 a8.size j G el fq (aE G aD G))))
    ·intro _ mx
     have f:=p.trans mx
     refine dk G G (aB (aP G G (fw _ f _ _ a8) ?_))
     exact aE G aD rfl
    ·exact fun _ _=>aB (mv 1 G (aE G aD G))
    ·exact fun _ _=>aB (mv 1 G (aE G aD G))
    ·exact fun _ _=>dk G G (dk G G (aB (bI G G G d9 a8.size j G ei go (aE G aD G))))
    ·intro _ nh
     have f:=p.trans nh
     refine dk G G (aB (aP G G (fk _ f _ _ a8) ?_))
     exact aE G aD rfl
    ·intro _ gf
     have f:=p.trans gf
     refine dk G G (dk G G (dk G G (dk G G (aB ?_))))
     have il:ln ((Int.lcm (bV (ms.take j)) (ms.getD j 0):Int))≤1048577:=(by rw [hJ (by rw [hm.len];omega)];exact g0 hsum (j+1))
     have nu:ln (s'%(Int.lcm (bV (ms.take j)) (ms.getD j 0):Int))≤1048577:=a6 (bO (kX bt (h0 j (by rw [hm.len];omega)))) il
     refine cl (vs:= [J kr.s kr.A kr.n kr.c,J km.s km.A km.n km.c,.agg #[.bool cn,AT fd (ks.getD j 0) cj],.agg #[.bool fe,AT dy (js.getD j 0) dr]]) f (yJ f.size (zr.ext gf).zi (zr.le (a6 (a6 (bO (kP h0 j)) (g0 hsum j)) (by decide))) (zm.ext gf).zi (zm.le (a6 (g0 hsum j) (by decide))) (jv.ext f) (a6 (hkb j) (by decide)) (kt.ext f) (a6 (hjb j) (by decide)) bt (h0 j (by rw [hm.len];omega)) d1 d2) G (by kernel_rfl) fun _ _ ji md q=>?_
     obtain⟨_,_,_,rfl,⟨_,_,_,_,rfl,lv⟩,⟨_,_,_,_,rfl,lp⟩,rfl,ia⟩:=ji
     exact aE G md ⟨_,_,_,rfl,⟨_,_,_,_,rfl,lv⟩,⟨_,_,_,_,rfl,lp⟩,rfl,ia⟩
    ·intro _ _
     refine aO G G fun _ _ jg _ de=>?_
     obtain⟨_,_,_,rfl,⟨_,_,_,_,rfl,az⟩,⟨_,_,_,_,rfl,aw⟩,rfl,ge⟩:=jg
     have az:=az.ext de
     have aw:=aw.ext de
     refine aB (mv 1 G ?_)
     exact aE G aD ⟨_,_,_,rfl,⟨_,_,_,_,rfl,az⟩,⟨_,_,_,_,rfl,aw⟩,rfl,ge⟩
    ·intro _ _
     refine aO G G fun _ _ ij _ ew=>?_
     obtain⟨_,_,_,rfl,⟨ir,kk,iz,kn,rfl,bf⟩,⟨_,_,_,_,rfl,dc⟩,rfl,_⟩:=ij
     have bf:=bf.ext ew
     have dc:=dc.ext ew
     refine aB ?_
     exact⟨J ir kk iz kn,rfl,rfl,fun _=>by kernel_rfl,⟨_,_,_,_,rfl,bf⟩⟩
    ·intro _ _
     refine aO G G fun _ _ jr _ cy=>?_
     obtain⟨_,_,_,rfl,⟨_,_,_,_,rfl,dl⟩,⟨ll,kz,kx,iu,rfl,ah⟩,rfl,_⟩:=jr
     have dl:=dl.ext cy
     have ah:=ah.ext cy
     refine aB ?_
     exact⟨J ll kz kx iu,rfl,rfl,fun _=>by kernel_rfl,⟨_,_,_,_,rfl,ah⟩⟩
    ·intro _ _
     refine aO G G fun _ _ iw _ dg=>?_
     obtain⟨_,_,_,rfl,⟨_,_,_,_,rfl,ci⟩,⟨_,_,_,_,rfl,dm⟩,rfl,_⟩:=iw
     have ci:=ci.ext dg
     have dm:=dm.ext dg
     refine aB ?_
     exact⟨v4 0,rfl,rfl,fun _=>by kernel_rfl,rfl⟩
    ·intro _ am
     have f:=p.trans am
     refine dk G G (dk G G (dk G G (dk G G (dk G G (dk G G (dk G G (dk G G (dk G G (dk G G (aO G G fun _ _ lj _ ee=>?_))))))))))
     obtain⟨_,_,_,rfl,⟨_,_,_,_,rfl,cp⟩,⟨_,_,_,_,rfl,ej⟩,rfl,_⟩:=lj
     have cp:=cp.ext ee
     have ej:=ej.ext ee
     refine aO G G fun _ _ ja _ da=>?_
     obtain⟨_,_,_,rfl,⟨_,_,_,_,rfl,ez⟩,⟨_,_,_,_,rfl,ep⟩,rfl,fh⟩:=ja
     have ez:=ez.ext da
     have ep:=ep.ext da
     refine aO G G fun _ _ jo _ mh=>?_
     obtain⟨ag,br,an,ai,rfl,ba⟩:=jo
     have ba:=ba.ext mh
     refine aO G G fun _ _ ma _ mj=>?_
     obtain⟨bp,bj,bd,au,rfl,ab⟩:=ma
     have ab:=ab.ext mj
     refine dk G G (aB ?_)
     intro _ o
     have ib:=o (12,11,0) (by decide) _ _ G G _ _ G rfl
     have fz:=o (13,11,1) (by decide) _ _ G G _ _ G rfl
     have ft:∀g,dH (J ag br an ai) g→dH (J bp bj bd au) g→False:=fun g h1 h2=>fh g ((congrArg (dH · g) ib).mp h1) ((congrArg (dH · g) fz).mp h2)
     clear o
     have E:=(b_4.ext am)
     refine so a8 E (O ag br an ai) f gk G G G G fun _ fm bi q=>?_
     have F:=((b_5.ext am).vN bi)
     refine so a8 F (O bp bj bd au) q I G G G G fun lh gj ar av=>(mv 1 G (aR (cF (aK (sr (mv 1 G (aN G G G false (by decide) (aA (aV G (b8 (bM (aK (aJ ?_)))))))))))))
     refine aT G G G ((j+1:Nat):Int) (bK (a:=j) (b:=1) G G) (mv 1 G (aR (bX (⟨lh,j+1,s',⟨ag,br,an,ai⟩,⟨bp,bj,bd,au⟩⟩:a7×Nat×Int×ZC×ZC) ⟨av,(by omega),np,(fm.vN ar),gj,(((ba.updT E bi).updT F ar)).cast (by rw [hJ (by rw [hm.len];omega)]),(((ab.updT E bi).updT F ar)).cast (hJ (by rw [hm.len];omega)),ft⟩ (show n-(j+1)<n-j by omega) G ⟨rfl,rfl,rfl,rfl,rfl,rfl,rfl,Fo⟩)))
   ·obtain⟨M,Z,bh,aj,bu,bz,gi⟩:=hr.at (i:=j) (by omega)
    obtain⟨ao,bg,bo,V,bv,cg,gx⟩:=hm.at (i:=j) (by omega)
    refine uX bR 15 [12,13,14] [] [(12,11,0),(13,11,1)] [Is (J kr.s kr.A kr.n kr.c),Is (J km.s km.A km.n km.c),Is (AT A n cap),Is (v4 j),Is (.pointer (some M)),Is (.agg #[.bool Z,AT bh (ks.getD j 0) aj]),Is (AT B n cap2),Is (v4 j),Is (.pointer (some ao)),Is (.agg #[.bool bg,AT bo (js.getD j 0) V]),TA (ZR w.heap.size (0)) (ZR w.heap.size (0)) (Is (v4 6)),TA (ZR w.heap.size (0)) (ZR w.heap.size (0)) (Is (v4 6)),ZR w.heap.size (0),ZR w.heap.size (0),Is (v4 6)] [[],[],[],[],[2,3],[4],[],[],[6,7],[8],[0,1,5,9],[10],[11],[11],[11]] [[],[],[],[],[2,3],[2,3,4],[],[],[6,7],[6,7,8],[0,1,2,3,4,5,6,7,8,9],[0,1,2,3,4,5,6,7,8,9,10],[0,1,2,3,4,5,6,7,8,9,10,11],[0,1,2,3,4,5,6,7,8,9,10,11],[0,1,2,3,4,5,6,7,8,9,10,11],[0,1,2,3,4,5,6,7,8,9,10,11,12],[0,1,2,3,4,5,6,7,8,9,10,11,12,13,15],[0,1,2,3,4,5,6,7,8,9,10,11,12,13,14,15,16]] G G Fo (qA ⟨_,_,rfl,rfl,rfl⟩ (qA ⟨_,_,rfl,rfl,rfl⟩ uK))
     (aF G G (aC G G ?_) (aF G G (aC G G ?_) (aF G G (aC G G ?_) (aF G G (aC G G ?_) (aF G G (aC G G ?_) (aF G G (aC G G ?_) (aF G G (aC G G ?_) (aF G G (aC G G ?_) (aF G G (aC G G ?_) (aF G G (aC G G ?_) (aF G G (aC G G ?_) (aF G G (aC G G ?_) (cV G G (cY G ?_) (cV G G (cY G ?_) (cV G G (cY G ?_) cE))))))))))))))) ?_
    ·exact fun _ jf=>aB (lo a8 (b_4.ext jf) (O kr.s kr.A kr.n kr.c) G G G (aE G aD G))
    ·exact fun _ jm=>aB (lo a8 (b_5.ext jm) (O km.s km.A km.n km.c) G G G (aE G aD G))
    ·exact fun _ _=>aB (mv 1 G (aE G aD G))
    ·exact fun _ _=>aB (mv 1 G (aE G aD G))
    ·exact fun _ _=>dk G G (dk G G (aB (bI G G G d9 a8.size j G M bu (aE G aD G))))
    ·intro _ lu
     have f:=p.trans lu
     refine dk G G (aB (aP G G (bz _ f _ _ a8) ?_))
     exact aE G aD rfl
    ·exact fun _ _=>aB (mv 1 G (aE G aD G))
    ·exact fun _ _=>aB (mv 1 G (aE G aD G))
    ·exact fun _ _=>dk G G (dk G G (aB (bI G G G d9 a8.size j G ao bv (aE G aD G))))
    ·intro _ iy
     have f:=p.trans iy
     refine dk G G (aB (aP G G (cg _ f _ _ a8) ?_))
     exact aE G aD rfl
    ·intro _ W
     have f:=p.trans W
     refine dk G G (dk G G (dk G G (dk G G (aB (cl (vs:= [J kr.s kr.A kr.n kr.c,J km.s km.A km.n km.c,.agg #[.bool Z,AT bh (ks.getD j 0) aj],.agg #[.bool bg,AT bo (js.getD j 0) V]]) f (FC f.size (zr.ext W).zi (zr.le (a6 (a6 (bO (kP h0 j)) (g0 hsum j)) (by decide))) (zm.ext W).zi (zm.le (a6 (g0 hsum j) (by decide))) (gi.ext f) (a6 (hkb j) (by decide)) (gx.ext f) (a6 (hjb j) (by decide)) bt (h0 j (by rw [hm.len];omega)) hd) G (by kernel_rfl) fun _ _ mi jp q=>?_)))))
     obtain⟨_,_,_,rfl,⟨_,_,_,_,rfl,mb⟩,⟨_,_,_,_,rfl,ky⟩,rfl,fv⟩:=mi
     exact aE G jp ⟨_,_,_,rfl,⟨_,_,_,_,rfl,mb⟩,⟨_,_,_,_,rfl,ky⟩,rfl,fv⟩
    ·intro _ _
     refine aO G G fun _ _ kf _ cv=>?_
     obtain⟨_,_,_,rfl,⟨_,_,_,_,rfl,bm⟩,⟨_,_,_,_,rfl,aa⟩,rfl,fx⟩:=kf
     have bm:=bm.ext cv
     have aa:=aa.ext cv
     refine aB (mv 1 G ?_)
     exact aE G aD ⟨_,_,_,rfl,⟨_,_,_,_,rfl,bm⟩,⟨_,_,_,_,rfl,aa⟩,rfl,fx⟩
    ·intro _ _
     refine aO G G fun _ _ lm _ fb=>?_
     obtain⟨_,_,_,rfl,⟨je,jd,jj,ku,rfl,aq⟩,⟨_,_,_,_,rfl,ch⟩,rfl,_⟩:=lm
     have aq:=aq.ext fb
     have ch:=ch.ext fb
     refine aB ?_
     exact⟨J je jd jj ku,rfl,rfl,fun _=>by kernel_rfl,⟨_,_,_,_,rfl,aq⟩⟩
    ·intro _ _
     refine aO G G fun _ _ ju _ cm=>?_
     obtain⟨_,_,_,rfl,⟨_,_,_,_,rfl,ck⟩,⟨io,mf,kv,mm,rfl,ak⟩,rfl,_⟩:=ju
     have ck:=ck.ext cm
     have ak:=ak.ext cm
     refine aB ?_
     exact⟨J io mf kv mm,rfl,rfl,fun _=>by kernel_rfl,⟨_,_,_,_,rfl,ak⟩⟩
    ·intro _ _
     refine aO G G fun _ _ kq _ ey=>?_
     obtain⟨_,_,_,rfl,⟨_,_,_,_,rfl,dd⟩,⟨_,_,_,_,rfl,du⟩,rfl,_⟩:=kq
     have dd:=dd.ext ey
     have du:=du.ext ey
     refine aB ?_
     exact⟨v4 6,rfl,rfl,fun _=>by kernel_rfl,rfl⟩
    ·intro _ ae
     have f:=p.trans ae
     refine dk G G (dk G G (dk G G (dk G G (dk G G (dk G G (dk G G (dk G G (dk G G (dk G G (aO G G fun _ _ kj _ dx=>?_))))))))))
     obtain⟨_,_,_,rfl,⟨_,_,_,_,rfl,cu⟩,⟨_,_,_,_,rfl,ef⟩,rfl,_⟩:=kj
     have cu:=cu.ext dx
     have ef:=ef.ext dx
     refine aO G G fun _ _ jt _ dv=>?_
     obtain⟨_,_,_,rfl,⟨_,_,_,_,rfl,dz⟩,⟨_,_,_,_,rfl,df⟩,rfl,fj⟩:=jt
     have dz:=dz.ext dv
     have df:=df.ext dv
     refine aO G G fun _ _ ip _ jq=>?_
     obtain⟨eh,dt,dh,ct,rfl,cz⟩:=ip
     have cz:=cz.ext jq
     refine aO G G fun _ _ jx _ jw=>?_
     obtain⟨fa,dw,fc,dn,rfl,eg⟩:=jx
     have eg:=eg.ext jw
     refine dk G G (aB ?_)
     intro _ o
     have gg:=o (12,11,0) (by decide) _ _ G G _ _ G rfl
     have fg:=o (13,11,1) (by decide) _ _ G G _ _ G rfl
     have ng:∀g,dH (J eh dt dh ct) g→dH (J fa dw fc dn) g→False:=fun g h1 h2=>fj g ((congrArg (dH · g) gg).mp h1) ((congrArg (dH · g) fg).mp h2)
     clear o
     have fo:=(b_4.ext ae)
     refine so a8 fo (O eh dt dh ct) f gk G G G G fun _ ga jy q=>?_
     have fy:=((b_5.ext ae).vN jy)
     refine so a8 fy (O fa dw fc dn) q I G G G G fun cx fi jz av=>(mv 1 G (aR (cF (aK (sr (mv 1 G (aN G G G true (by decide) (aA (bB G (sr (pu (v:= .agg #[F0,S0]) G (pu (v:= .agg #[F0,S0]) G (mv 1 G ?_)))))))))))))
     have H:=(ga.vN jz)
     refine so a8 H [F0,S0] av gk G G G G fun _ fp U nk=>?_
     have D:=(fi.vN U)
     refine so a8 D [F0,S0] nk I G G G G fun _ gb bc ni=>(mv 1 G (aA (bD (iB (cT (nQ (iB (cT (bC [.agg #[F0,S0],.agg #[F0,S0],v4 6] G ⟨⟨_,rfl,aW a8 (fp.vN bc) [F0,S0] G (bq G) rfl⟩,⟨_,rfl,aW a8 gb [F0,S0] G (bq G) rfl⟩,rfl,Fo⟩ ?_)))))))))
     exact⟨_,rfl,⟨_,_,_,rfl,⟨_,_,_,_,rfl,((((Zr.zero (w:=cx) (base:=w.heap.size)).updT H U).updT D bc)).mono hb⟩,⟨_,_,_,_,rfl,((((Zr.zero (w:=cx) (base:=w.heap.size)).updT H U).updT D bc)).mono hb⟩,rfl,fun _ h _=>lQ h⟩,ni⟩
  ·have oa:j=n:=by omega
   exact absurd ⟨s,fun i hi=>hs i (by omega)⟩ hno
theorem QT (hb:b≤w.heap.size){ms:List Int}(hr:Zl w A n cap rs ks)(hm:Zl w B n cap2 ms js)(hn:n≤2097152)(hkb:∀i,ks.getD i 0≤16777216)(hjb:∀i,js.getD i 0≤16777216)(hsum:(ms.map ln).sum≤1048576)(h0:∀i,i<ms.length→ms.getD i 0≠0)(hs:∀i,i<ms.length→ms.getD i 0∣rs.getD i 0-s):aQ aM 51 #[AT A n cap,AT B n cap2] w (Gv w (TA (ZR b (s%bV ms)) (ZR b (bV ms)) (Is (v4 0)))):=by
 refine bP Tryz.func51 G (n:=58) G (bq G) (args:= [AT A n cap,AT B n cap2]) (bH [(0,AT A n cap),(1,AT B n cap2)] ⟨rfl,rfl,Fo⟩ (sr (al [F0,S0] (Ext.refl w) (fun _=>by kernel_rfl) G fun g1 _ gi fh _ p=>(bF [F0,S0] p gi.lt (fun _=>by kernel_rfl) G fun g6 v7 iq ae _ e8 f=>(mv 1 G (aA (aH (sr (mv 1 G (pu (v:= v4 n) G (mv 1 G (pu (v:= v4 n) G (aN G G G false (iI (a:=n) (b:=n) G G) ?_)))))))))))))
 refine aA (aV G (b8 (aK (aH (sr (mv 1 G (pu (v:= v4 n) G (mv 1 G (aA (bG ?_))))))))))
 refine cQ (T:=a7×Nat)
  (fun⟨wr,k⟩=> [(0,AT A n cap),(1,AT B n cap2),(4,no g1 0),(5,no g6 0),(6,v4 0),(17,AT B n cap2),(18,v4 n),(19,v4 k)])
  (fun⟨wr,k⟩=>wr)
  (fun⟨wr,k⟩=>(Ext w wr)∧(k≤n)∧(∀i,i<k→ms.getD i 0≠0)∧(Bk wr g1 24 [F0,S0])∧(Bk wr g6 24 [F0,S0]))
  (fun⟨wr,k⟩=>n-k)
  (⟨v7,0⟩:a7×Nat) ⟨f,bJ _,(fun i hi=>by omega),(gi.ext e8),iq⟩ G ⟨rfl,rfl,rfl,rfl,rfl,rfl,rfl,rfl,Fo⟩ ?_
 rintro⟨wr,k⟩ ⟨p,_,hz,b_4,b_5⟩
 refine cP [(0,AT A n cap),(1,AT B n cap2),(4,no g1 0),(5,no g6 0),(6,v4 0),(17,AT B n cap2),(18,v4 n),(19,v4 k)] wr G ⟨rfl,rfl,rfl,rfl,rfl,rfl,rfl,rfl,Fo⟩ (aH ?_)
 by_cases ja:k<n
 ·refine aJ (aN G G G true (cG (a:=k) (b:=n) G G) (aA (aH (bB G (b8 (aK (aH (bG (sr ?_)))))))))
  obtain⟨ei,ab,U,ah,dr,dl,ef⟩:=hm.at (i:=k) (by omega)
  refine bI G G G d9 a8.size k G ei dr (aP G G (dl _ p _ _ a8) (bF [F0,S0] p b_5.lt (fun _=>by kernel_rfl) G fun _ _ fc fd _ ej f=>(so a8 fc [.bool ab,AT U (js.getD k 0) ah] f fd G G G G fun _ dz gx D=>(aA (aH ?_)))))
  have gf:ms.getD k 0≠0:=h0 k (by rw [hm.len];omega)
  refine aJ (lo a8 dz [.bool ab,AT U (js.getD k 0) ah] G G G (cl (vs:= [.agg #[.bool ab,AT U (js.getD k 0) ah]]) D (f6 (ef.ext D) (a6 (hjb k) (by decide))) G (by kernel_rfl) fun _ ij ie dx X=>?_))
  obtain rfl:=ie
  refine aN G G G false (fE gf) (aA (aV G (b8 (bM (aK (aJ (aT G G G ((k+1:Nat):Int) (bK (a:=k) (b:=1) G G) (mv 1 G (aR (bX (⟨ij,k+1⟩:a7×Nat) ⟨X,(by omega),(fun i hi=>if h:i<k then hz i h else (show i=k by omega)▸gf),(((b_4.ext ej).vN gx).ext dx),(((b_5.ext ej).vN gx).ext dx)⟩ (show n-(k+1)<n-k by omega) G ⟨rfl,rfl,rfl,rfl,rfl,rfl,rfl,rfl,Fo⟩))))))))))
 ·refine aJ (aN G G G false (cL (a:=k) (b:=n) G G) (aA (aH (aV G (cR (cK (cN (cO (aK (sr (cl (vs:= [v4 1]) p (lS p.size (by decide) (by decide)) G (by kernel_rfl) fun _ _ ik ey f=>?_)))))))))))
  obtain⟨fy,fe,fj,fq,rfl,ip⟩:=ik
  have bi:=(b_5.ext ey)
  refine so a8 bi (O fy fe fj fq) f ae G G G G fun ir gt fz D=>(aA (aH (sr (mv 1 G (pu (v:= v4 n) G (mv 1 G (aA (bG ?_))))))))
  refine cQ (T:=a7×Nat×ZC×ZC)
   (fun⟨wq,j,kr,km⟩=> [(0,AT A n cap),(1,AT B n cap2),(4,no g1 0),(5,no g6 0),(6,v4 0),(31,v4 n),(32,v4 j)])
   (fun⟨wq,j,kr,km⟩=>wq)
   (fun⟨wq,j,kr,km⟩=>(Ext w wq)∧(j≤n)∧(Bk wq g1 24 (O kr.s kr.A kr.n kr.c))∧(Bk wq g6 24 (O km.s km.A km.n km.c))∧(Zr wq w.heap.size kr.s kr.A kr.n kr.c (s%bV (ms.take j)))∧(Zr wq w.heap.size km.s km.A km.n km.c (bV (ms.take j)))∧(∀g,dH (J kr.s kr.A kr.n kr.c) g→dH (J km.s km.A km.n km.c) g→False))
   (fun⟨wq,j,kr,km⟩=>n-j)
   (⟨ir,0,⟨false,none,0,0⟩,⟨fy,fe,fj,fq⟩⟩:a7×Nat×ZC×ZC) ⟨D,bJ _,((b_4.ext ey).vN fz),gt,(Zr.zero.cast (by rw [List.take_zero];exact (Int.emod_one _).symm)),((ip.updT bi fz)).cast (by rfl),(fun _ h _=>lQ h)⟩ G ⟨rfl,rfl,rfl,rfl,rfl,rfl,rfl,Fo⟩ ?_
  rintro⟨wq,j,kr,km⟩ ⟨p,hj,b_4,b_5,zr,zm,iw⟩
  refine cP [(0,AT A n cap),(1,AT B n cap2),(4,no g1 0),(5,no g6 0),(6,v4 0),(31,v4 n),(32,v4 j)] wq G ⟨rfl,rfl,rfl,rfl,rfl,rfl,rfl,Fo⟩ (aH ?_)
  by_cases ix:j<n
  ·refine aJ (aN G G G true (cG (a:=j) (b:=n) G G) (aA (aH (bB G (b8 (aK (aH (bG (sr (mv 2 G (aA (aH ?_))))))))))))
   have cv:bV (ms.take j)≠0:=kP h0 j
   obtain⟨br,bh,ck,bc,dm,dv,gy⟩:=hr.at (i:=j) (by omega)
   obtain⟨bm,ct,bd,cp,dh,de,ez⟩:=hm.at (i:=j) (by omega)
   have ib:ln ((Int.lcm (bV (ms.take j)) (ms.getD j 0):Int))≤1048577:=(by rw [hJ (by rw [hm.len];omega)];exact g0 hsum (j+1))
   have jd:ln (s%(Int.lcm (bV (ms.take j)) (ms.getD j 0):Int))≤1048577:=a6 (bO (kX cv (h0 j (by rw [hm.len];omega)))) ib
   refine uX bR 15 [12,13,14] [] [(12,11,0),(13,11,1)] [Is (J kr.s kr.A kr.n kr.c),Is (J km.s km.A km.n km.c),Is (AT A n cap),Is (v4 j),Is (.pointer (some br)),Is (.agg #[.bool bh,AT ck (ks.getD j 0) bc]),Is (AT B n cap2),Is (v4 j),Is (.pointer (some bm)),Is (.agg #[.bool ct,AT bd (js.getD j 0) cp]),TA (ZR w.heap.size (s%(Int.lcm (bV (ms.take j)) (ms.getD j 0):Int))) (ZR w.heap.size ((Int.lcm (bV (ms.take j)) (ms.getD j 0):Int))) (Is (v4 0)),TA (ZR w.heap.size (s%(Int.lcm (bV (ms.take j)) (ms.getD j 0):Int))) (ZR w.heap.size ((Int.lcm (bV (ms.take j)) (ms.getD j 0):Int))) (Is (v4 0)),ZR w.heap.size (s%(Int.lcm (bV (ms.take j)) (ms.getD j 0):Int)),ZR w.heap.size ((Int.lcm (bV (ms.take j)) (ms.getD j 0):Int)),Is (v4 0)] [[],[],[],[],[2,3],[4],[],[],[6,7],[8],[0,1,5,9],[10],[11],[11],[11]] [[],[],[],[],[2,3],[2,3,4],[],[],[6,7],[6,7,8],[0,1,2,3,4,5,6,7,8,9],[0,1,2,3,4,5,6,7,8,9,10],[0,1,2,3,4,5,6,7,8,9,10,11],[0,1,2,3,4,5,6,7,8,9,10,11],[0,1,2,3,4,5,6,7,8,9,10,11],[0,1,2,3,4,5,6,7,8,9,10,11,12],[0,1,2,3,4,5,6,7,8,9,10,11,12,13,15],[0,1,2,3,4,5,6,7,8,9,10,11,12,13,14,15,16]] G G Fo (qA ⟨_,_,rfl,rfl,rfl⟩ (qA ⟨_,_,rfl,rfl,rfl⟩ uK))
    (aF G G (aC G G ?_) (aF G G (aC G G ?_) (aF G G (aC G G ?_) (aF G G (aC G G ?_) (aF G G (aC G G ?_) (aF G G (aC G G ?_) (aF G G (aC G G ?_) (aF G G (aC G G ?_) (aF G G (aC G G ?_) (aF G G (aC G G ?_) (aF G G (aC G G ?_) (aF G G (aC G G ?_) (cV G G (cY G ?_) (cV G G (cY G ?_) (cV G G (cY G ?_) cE))))))))))))))) ?_
   ·exact fun _ ig=>aB (lo a8 (b_4.ext ig) (O kr.s kr.A kr.n kr.c) G G G (aE G aD G))
   ·exact fun _ ia=>aB (lo a8 (b_5.ext ia) (O km.s km.A km.n km.c) G G G (aE G aD G))
   ·exact fun _ _=>aB (mv 1 G (aE G aD G))
   ·exact fun _ _=>aB (mv 1 G (aE G aD G))
   ·exact fun _ _=>dk G G (dk G G (aB (bI G G G d9 a8.size j G br dm (aE G aD G))))
   ·intro _ il
    have f:=p.trans il
    refine dk G G (aB (aP G G (dv _ f _ _ a8) ?_))
    exact aE G aD rfl
   ·exact fun _ _=>aB (mv 1 G (aE G aD G))
   ·exact fun _ _=>aB (mv 1 G (aE G aD G))
   ·exact fun _ _=>dk G G (dk G G (aB (bI G G G d9 a8.size j G bm dh (aE G aD G))))
   ·intro _ iu
    have f:=p.trans iu
    refine dk G G (aB (aP G G (de _ f _ _ a8) ?_))
    exact aE G aD rfl
   ·intro _ da
    have f:=p.trans da
    refine dk G G (dk G G (dk G G (dk G G (aB ?_))))
    have ee:ln ((Int.lcm (bV (ms.take j)) (ms.getD j 0):Int))≤1048577:=(by rw [hJ (by rw [hm.len];omega)];exact g0 hsum (j+1))
    have iy:ln (s%(Int.lcm (bV (ms.take j)) (ms.getD j 0):Int))≤1048577:=a6 (bO (kX cv (h0 j (by rw [hm.len];omega)))) ee
    refine cl (vs:= [J kr.s kr.A kr.n kr.c,J km.s km.A km.n km.c,.agg #[.bool bh,AT ck (ks.getD j 0) bc],.agg #[.bool ct,AT bd (js.getD j 0) cp]]) f (yJ f.size (zr.ext da).zi (zr.le (a6 (a6 (bO (kP h0 j)) (g0 hsum j)) (by decide))) (zm.ext da).zi (zm.le (a6 (g0 hsum j) (by decide))) (gy.ext f) (a6 (hkb j) (by decide)) (ez.ext f) (a6 (hjb j) (by decide)) cv (h0 j (by rw [hm.len];omega)) (yO s _) (hs j (by rw [hm.len];omega))) G (by kernel_rfl) fun _ _ fw ge D=>?_
    obtain⟨_,_,_,rfl,⟨_,_,_,_,rfl,fv⟩,⟨_,_,_,_,rfl,ft⟩,rfl,dt⟩:=fw
    exact aE G ge ⟨_,_,_,rfl,⟨_,_,_,_,rfl,fv⟩,⟨_,_,_,_,rfl,ft⟩,rfl,dt⟩
   ·intro _ _
    refine aO G G fun _ _ fk _ cj=>?_
    obtain⟨_,_,_,rfl,⟨_,_,_,_,rfl,Z⟩,⟨_,_,_,_,rfl,Y⟩,rfl,cz⟩:=fk
    have Z:=Z.ext cj
    have Y:=Y.ext cj
    refine aB (mv 1 G ?_)
    exact aE G aD ⟨_,_,_,rfl,⟨_,_,_,_,rfl,Z⟩,⟨_,_,_,_,rfl,Y⟩,rfl,cz⟩
   ·intro _ _
    refine aO G G fun _ _ dy _ bu=>?_
    obtain⟨_,_,_,rfl,⟨el,eg,fa,eh,rfl,aj⟩,⟨_,_,_,_,rfl,ch⟩,rfl,_⟩:=dy
    have aj:=aj.ext bu
    have ch:=ch.ext bu
    refine aB ?_
    exact⟨J el eg fa eh,rfl,rfl,fun _=>by kernel_rfl,⟨_,_,_,_,rfl,aj⟩⟩
   ·intro _ _
    refine aO G G fun _ _ go _ bv=>?_
    obtain⟨_,_,_,rfl,⟨_,_,_,_,rfl,cn⟩,⟨fp,fi,fg,ep,rfl,ao⟩,rfl,_⟩:=go
    have cn:=cn.ext bv
    have ao:=ao.ext bv
    refine aB ?_
    exact⟨J fp fi fg ep,rfl,rfl,fun _=>by kernel_rfl,⟨_,_,_,_,rfl,ao⟩⟩
   ·intro _ _
    refine aO G G fun _ _ ew _ cm=>?_
    obtain⟨_,_,_,rfl,⟨_,_,_,_,rfl,ba⟩,⟨_,_,_,_,rfl,co⟩,rfl,_⟩:=ew
    have ba:=ba.ext cm
    have co:=co.ext cm
    refine aB ?_
    exact⟨v4 0,rfl,rfl,fun _=>by kernel_rfl,rfl⟩
   ·intro _ av
    have f:=p.trans av
    refine dk G G (dk G G (dk G G (dk G G (dk G G (dk G G (dk G G (dk G G (dk G G (dk G G (aO G G fun _ _ fo _ bg=>?_))))))))))
    obtain⟨_,_,_,rfl,⟨_,_,_,_,rfl,bj⟩,⟨_,_,_,_,rfl,bp⟩,rfl,_⟩:=fo
    have bj:=bj.ext bg
    have bp:=bp.ext bg
    refine aO G G fun _ _ fb _ cg=>?_
    obtain⟨_,_,_,rfl,⟨_,_,_,_,rfl,bz⟩,⟨_,_,_,_,rfl,bt⟩,rfl,cy⟩:=fb
    have bz:=bz.ext cg
    have bt:=bt.ext cg
    refine aO G G fun _ _ gb _ gj=>?_
    obtain⟨am,az,aw,au,rfl,aa⟩:=gb
    have aa:=aa.ext gj
    refine aO G G fun _ _ ga _ gk=>?_
    obtain⟨ar,aq,ai,W,rfl,ak⟩:=ga
    have ak:=ak.ext gk
    refine dk G G (aB ?_)
    intro _ q
    have du:=q (12,11,0) (by decide) _ _ G G _ _ G rfl
    have dw:=q (13,11,1) (by decide) _ _ G G _ _ G rfl
    have dn:∀g,dH (J am az aw au) g→dH (J ar aq ai W) g→False:=fun g h1 h2=>cy g ((congrArg (dH · g) du).mp h1) ((congrArg (dH · g) dw).mp h2)
    clear q
    have H:=(b_4.ext av)
    refine so a8 H (O am az aw au) f fh G G G G fun _ df an D=>?_
    have I:=((b_5.ext av).vN an)
    refine so a8 I (O ar aq ai W) D ae G G G G fun fm dg V X=>(mv 1 G (aR (cF (aK (sr (mv 1 G (aN G G G false (by decide) (aA (aV G (b8 (bM (aK (aJ ?_)))))))))))))
    refine aT G G G ((j+1:Nat):Int) (bK (a:=j) (b:=1) G G) (mv 1 G (aR (bX (⟨fm,j+1,⟨am,az,aw,au⟩,⟨ar,aq,ai,W⟩⟩:a7×Nat×ZC×ZC) ⟨X,(by omega),(df.vN V),dg,(((aa.updT H an).updT I V)).cast (by rw [hJ (by rw [hm.len];omega)]),(((ak.updT H an).updT I V)).cast (hJ (by rw [hm.len];omega)),dn⟩ (show n-(j+1)<n-j by omega) G ⟨rfl,rfl,rfl,rfl,rfl,rfl,rfl,Fo⟩)))
  ·have io:j=n:=by omega
   refine aJ (aN G G G false (cL (a:=j) (b:=n) G G) (aA (aH (aV G (cR (cK (cN (cO (aK (aH (bH [(0,AT A n cap),(1,AT B n cap2),(4,no g1 0),(5,no g6 0),(31,v4 n),(32,v4 j),(33,BY)] ⟨rfl,rfl,rfl,rfl,rfl,rfl,rfl,Fo⟩ ?_)))))))))))
   obtain⟨bo,hv,o⟩:∃v,v=wq.drew∧Ext wq v:=⟨_,rfl,aD.drew⟩
   have f:=p.trans o
   have F:=(b_4.ext o)
   obtain⟨fx,cx,cu,E,_⟩:=eV (P:=aM) (us:= (O kr.s kr.A kr.n kr.c)) (off:=0) a8 G F (bq G) G (O kr.s kr.A kr.n kr.c) rfl
   have D:=E.ext f fh
   have L:=((b_5.ext o).vN E)
   obtain⟨gg,dd,dc,M,_⟩:=eV (P:=aM) (us:= (O km.s km.A km.n km.c)) (off:=0) a8 G L (bq G) G (O km.s km.A km.n km.c) rfl
   have X:=M.ext D ae
   refine gI bR (w:=bo) [J kr.s kr.A kr.n kr.c,J km.s km.A km.n km.c,undef,undef,I0] [bo,fx,gg] [2,3] [[],[],[0],[1],[]] [[],[],[0],[0,1,2],[0,1,2,3]] [(0,0),(1,0),(1,1),(2,0),(3,1),(4,2)] G hv ?_ ?_
   ·refine aX _ G G G G G (cB G (aW a8 (b_4.ext o) (O kr.s kr.A kr.n kr.c) G (bq G) G)) (aX _ G G G G G (cB G (aW a8 (b_5.ext o) (O km.s km.A km.n km.c) G (bq G) G)) (aX _ G G G G G (cB G (aW a8 ((b_5.ext o).vN E) (O km.s km.A km.n km.c) G (bq G) G)) (f7 _ G G G G G (eR G G cx) (f7 _ G G G G G (eR G G dd) (aX _ G G G G G (kL G) ?_)))))
    exact gH
   clear hv
   refine fU [(0,AT A n cap),(1,AT B n cap2),(4,no g1 0),(5,no g6 0),(31,v4 n),(32,v4 j),(33,BY),(56,J kr.s kr.A kr.n kr.c),(57,J km.s km.A km.n km.c),(6,v4 0)] ⟨rfl,rfl,rfl,rfl,rfl,rfl,rfl,rfl,rfl,rfl,Fo⟩ (aK (bD (bC [J kr.s kr.A kr.n kr.c,J km.s km.A km.n km.c,I0] G ⟨⟨_,rfl,aW a8 (cu.vN M) (O kr.s kr.A kr.n kr.c) G (bq G) rfl⟩,⟨_,rfl,aW a8 dc (O km.s km.A km.n km.c) G (bq G) rfl⟩,rfl,Fo⟩ ?_)))
   have ag:ms.take j=ms:=by rw [io,nA hm]
   exact⟨_,rfl,⟨_,_,_,rfl,⟨_,_,_,_,rfl,(((((zr.ext o).updT F E).updT L M)).cast (by rw [ag])).mono hb⟩,⟨_,_,_,_,rfl,(((((zm.ext o).updT F E).updT L M)).cast (by rw [ag])).mono hb⟩,rfl,iw⟩,X⟩
end Go.Proofs.YtkkabncicmhjfaaGreat
