/- Parts Rf6, App, Li, Inv, Ga, Crt, Ca, joined. -/
import Derived.Test.YtgilhcdglaneiaaGreatS3
import Derived.ArgAppend

namespace Go.Proofs.YtgilhcdglaneiaaGreat
open Go.RowKit
theorem g_ref3_Gcd {w:World}{A B:Option Addr}{n cap m cap' i j b:Nat}(hb:b≤w.heap.size) (hx:Wi w A n cap i) (hl:n≤17179869183) (hy:Wi w B m cap' j) (hl':m≤17179869183):Calls Tryz.prog 66 #[.slice A n cap,.slice B m cap'] w (Gv w (WR b (Nat.gcd i j))):=by
 obtain⟨xs,h1,rfl⟩:=hx
 obtain⟨ys,h2,rfl⟩:=hy
 exact (ref3_Gcd h1 (by omega) h2 (by omega)).mono (Gv.imp (WR.imp hb))
theorem eu_u6 {q r x y:Int}(h0:y≠0) (he:q*y+r=x) (h1:0≤r) (h2:r<(y.natAbs:Int)):q=x/y∧r=x%y:=by
 have e1:=Int.mul_ediv_add_emod x y
 have e2:=Int.emod_nonneg x h0
 have e3:=Int.emod_lt x h0
 have hd:(q-x/y)*y=x%y-r:=by rw [Int.sub_mul,Int.mul_comm (x/y)];omega
 have hq:q-x/y=0:=by
  by_cases hz:q-x/y=0
  ·exact hz
  ·exfalso
   have h5:((q-x/y)*y).natAbs<y.natAbs:=by rw [hd];omega
   rw [Int.natAbs_mul] at h5
   have:1*y.natAbs≤(q-x/y).natAbs*y.natAbs:=Nat.mul_le_mul_right _ (by omega)
   omega
 have hq2:q=x/y:=by omega
 refine⟨hq2,?_⟩
 rw [hq2,Int.mul_comm] at he
 omega
theorem natAbs_ediv_le (x y:Int):(x/y).natAbs≤x.natAbs:=by
 by_cases h:y=0
 ·subst h;simp
 ·have e1:=Int.mul_ediv_add_emod x y
  have e2:=Int.emod_nonneg x h
  have e3:=Int.emod_lt x h
  have h5:(y*(x/y)).natAbs=y.natAbs*(x/y).natAbs:=Int.natAbs_mul _ _
  rcases Nat.lt_or_ge y.natAbs 2 with hy | hy
  ·have h1:y.natAbs=1:=by omega
   rw [h1,Nat.one_mul] at h5;omega
  ·by_cases hq:(x/y).natAbs=0
   ·omega
   ·have h6:y.natAbs+(x/y).natAbs≤y.natAbs*(x/y).natAbs+1:=by
     obtain⟨a,ha⟩:∃a,y.natAbs=a+1:=⟨y.natAbs-1,by omega⟩
     obtain⟨c,hc⟩:∃c,(x/y).natAbs=c+1:=⟨(x/y).natAbs-1,by omega⟩
     rw [ha,hc,Nat.add_mul,Nat.mul_add];omega
    omega
theorem ln_ediv6 {x y:Int}{N:Nat}(h:ln x≤N):ln (x/y)≤N+1:=Nat.le_trans (Nat.le_trans (ln_mono (natAbs_ediv_le x y)) h) (Nat.le_succ _)
theorem scmp_eqz_t {x y:Int}(h:x=y):cmpB .eql (scmp x y) 0=some true:=eq_t (scmp_zero.2 h)
theorem scmp_eqz_f {x y:Int}(h:x≠y):cmpB .eql (scmp x y) 0=some false:=eq_f (fun e=>h (scmp_zero.1 e))
theorem scmp_nez_f {x y:Int}(h:x=y):cmpB .neq (scmp x y) 0=some false:=ne_f (scmp_zero.2 h)
theorem scmp_nez_t {x y:Int}(h:x≠y):cmpB .neq (scmp x y) 0=some true:=ne_t (fun e=>h (scmp_zero.1 e))
structure Iv (a m u:Int):Prop where
 lo:0≤u
 hi:u<m
 dvd:m∣a*u-1
theorem inv6_m1 {x m:Int}(h:m=1):Iv x m 0:=⟨by omega,by omega,by rw [h];exact Int.one_dvd _⟩
theorem inv6_x1 {x m:Int}(h:x=1) (h0:0<m) (h1:m≠1):Iv x m 1:=⟨by omega,by omega,by subst h;exact Int.dvd_zero m⟩
theorem inv_x2 {x m:Int}(h1:0≤x) (hx1:x≠1) (hm1:m≠1) (h3:Int.gcd x m=1) (h0:0<m):1<x:=by
 have:x≠0:=fun e=>by rw [e,Int.gcd_zero_left] at h3;omega
 omega
theorem inv_lt {x m:Int}(h:1<x):(m%x).natAbs<x.natAbs:=by
 have h1:=Int.emod_nonneg m (show x≠0 by omega)
 have h2:=Int.emod_lt_of_pos m (show 0<x by omega)
 omega
theorem gcd_emod6 (a m:Int):Int.gcd (a%m) m=Int.gcd a m:=by
 have e:=Int.mul_ediv_add_emod a m
 have:Int.gcd a m=Int.gcd (a%m+m*(a/m)) m:=by congr 1;omega
 rw [this,Int.gcd_add_mul_left_left]
theorem inv_gcd {x m:Int}(h:Int.gcd x m=1):Int.gcd (m%x) x=1:=by rw [gcd_emod6,Int.gcd_comm];exact h
theorem inv_gcd2 {x y:Int}(h:(Int.gcd x y:Int)=1):Int.gcd (x%(y.natAbs:Int)) (y.natAbs:Int)=1:=by
 rw [gcd_emod6]
 have e:Int.gcd x (y.natAbs:Int)=Int.gcd x y:=by unfold Int.gcd;rw [Int.natAbs_natCast]
 rw [e];omega
theorem dvd_emod6 {a m u:Int}(h:m∣a%m*u-1):m∣a*u-1:=by
 have e:=Int.mul_ediv_add_emod a m
 have e2:a*u-1=(a%m*u-1)+m*(a/m*u):=by
  have:a*u=(m*(a/m)+a%m)*u:=by rw [e]
  rw [this,Int.add_mul,Int.mul_assoc];omega
 rw [e2];exact Int.dvd_add h (Int.dvd_mul_right _ _)
theorem inv6_step {x m u:Int}(hx:1<x) (hm:1<m) (h:Iv (m%x) x u):(m*(x-u)+1).natAbs%x.natAbs=0∧Iv x m ((m*(x-u)+1).tdiv x):=by
 have h1:=dvd_emod6 h.dvd
 have hd:x∣m*(x-u)+1:=by
  have e:m*(x-u)+1=x*m-(m*u-1):=by rw [Int.mul_sub,Int.mul_comm x m];omega
  rw [e];exact Int.dvd_sub (Int.dvd_mul_right _ _) h1
 obtain⟨q,hq⟩:=hd
 have hq2:(m*(x-u)+1).tdiv x=q:=by rw [hq];exact Int.mul_tdiv_cancel_left _ (by omega)
 have hu:1≤u:=by
  have h0:=h.lo
  by_cases hz:u=0
  ·exfalso
   obtain⟨t,ht⟩:=h1
   rw [hz,Int.mul_zero] at ht
   have h3:x*(-t)=1:=by rw [Int.mul_neg];omega
   have h4:x∣1:=⟨-t,h3.symm⟩
   have:=Int.le_of_dvd (by decide) h4
   omega
  ·omega
 refine⟨Nat.mod_eq_zero_of_dvd (Int.natAbs_dvd_natAbs.2 ⟨q,hq⟩),?_⟩
 rw [hq2]
 have hpos:0<m*(x-u):=Int.mul_pos (by omega) (by have:=h.hi;omega)
 have hle:m*(x-u)≤m*(x-1):=Int.mul_le_mul_of_nonneg_left (by omega) (by omega)
 have hme:m*(x-1)=x*m-m:=by rw [Int.mul_sub,Int.mul_one,Int.mul_comm]
 refine⟨?_,?_,⟨x-u,by omega⟩⟩
 ·refine Int.not_lt.1 fun hl=>?_
  have:=Int.mul_neg_of_pos_of_neg (show 0<x by omega) hl
  omega
 ·refine Int.lt_of_not_ge fun hl=>?_
  have:x*m≤x*q:=Int.mul_le_mul_of_nonneg_left hl (by omega)
  omega
theorem gcd_mod0r (x y:Int):y.natAbs%(Int.gcd x y:Int).natAbs=0:=by
 rw [Int.natAbs_natCast]
 exact Nat.mod_eq_zero_of_dvd (Int.gcd_dvd_natAbs_right x y)
theorem gcd_mul0 (x y:Int):(x*y).natAbs%(Int.gcd x y:Int).natAbs=0:=by
 rw [Int.natAbs_natCast,Int.natAbs_mul]
 exact Nat.mod_eq_zero_of_dvd (Nat.dvd_trans (Int.gcd_dvd_natAbs_left x y) (Nat.dvd_mul_right _ _))
theorem lcm6_of {x y:Int}(h:(Int.gcd x y:Int)≠0):(Int.natAbs ((x*y).tdiv (Int.gcd x y:Int)):Int)=(Int.lcm x y:Int):=by
 rw [←lcm_of h,Int.natAbs_tdiv,Int.natAbs_mul,Int.natAbs_mul,Int.natAbs_tdiv]
 show ((x.natAbs*y.natAbs/_:Nat):Int)=((x.natAbs/_*y.natAbs:Nat):Int)
 congr 1
 rw [Nat.mul_comm,Nat.mul_div_assoc _ (by rw [Int.natAbs_natCast];exact Int.gcd_dvd_natAbs_left x y),Nat.mul_comm]
theorem bez_00 {x y:Int}(h:(Int.gcd x y:Int)=0):Bez x y 0 0:=by
 have h1:Int.gcd x y=0:=by omega
 obtain⟨rfl,rfl⟩:=Int.gcd_eq_zero_iff.1 h1
 exact Bez.ofZero rfl
theorem bez_n {x y:Int}(h:y=0) (hx:x<0):Bez x y (-((1:Nat):Int)) 0:=by
 have:=Bez.ofZero (x:=x) h
 rwa [Int.sign_eq_neg_one_of_neg hx] at this
theorem bez_p {x y:Int}(h:y=0) (hx:0<x):Bez x y ((1:Nat):Int) 0:=by
 have:=Bez.ofZero (x:=x) h
 rwa [Int.sign_eq_one_of_pos hx] at this
theorem ext6_pre (x:Int){y:Int}(h0:y≠0):x.tdiv (Int.gcd x y:Int)*(Int.gcd x y:Int)=x∧y.tdiv (Int.gcd x y:Int)*(Int.gcd x y:Int)=y∧(0:Int)<(Int.natAbs (y.tdiv (Int.gcd x y:Int)):Int)∧
  Int.gcd (x.tdiv (Int.gcd x y:Int)%(Int.natAbs (y.tdiv (Int.gcd x y:Int)):Int)) (Int.natAbs (y.tdiv (Int.gcd x y:Int)):Int)=1:=by
 have hpos:0<Int.gcd x y:=Int.gcd_pos_of_ne_zero_right x h0
 have e1:=Int.tdiv_mul_cancel (Int.gcd_dvd_left x y)
 have e2:=Int.tdiv_mul_cancel (Int.gcd_dvd_right x y)
 refine⟨e1,e2,?_,?_⟩
 ·have:y.tdiv (Int.gcd x y:Int)≠0:=fun e=>h0 (by rw [←e2,e,Int.zero_mul])
  omega
 ·refine inv_gcd2 ?_
  have h1:Int.gcd (x.tdiv (Int.gcd x y:Int)*(Int.gcd x y:Int)) (y.tdiv (Int.gcd x y:Int)*(Int.gcd x y:Int))=Int.gcd (x.tdiv (Int.gcd x y:Int)) (y.tdiv (Int.gcd x y:Int))*(Int.gcd x y:Int).natAbs:=Int.gcd_mul_right _ _ _
  rw [e1,e2,Int.natAbs_natCast] at h1
  have h2:1*Int.gcd x y=Int.gcd (x.tdiv (Int.gcd x y:Int)) (y.tdiv (Int.gcd x y:Int))*Int.gcd x y:=by rw [Nat.one_mul];exact h1
  have:=Nat.eq_of_mul_eq_mul_right hpos h2
  omega
theorem ext6 {x y u:Int}(h0:y≠0) (h:Iv (x.tdiv (Int.gcd x y:Int)%(Int.natAbs (y.tdiv (Int.gcd x y:Int)):Int)) (Int.natAbs (y.tdiv (Int.gcd x y:Int)):Int) u):
  Bez x y u (((Int.gcd x y:Int)-x*u).tdiv y)∧((Int.gcd x y:Int)-x*u).natAbs%y.natAbs=0:=by
 obtain⟨e1,e2,hp,_⟩:=ext6_pre x h0
 have hg:0<Int.gcd x y:=Int.gcd_pos_of_ne_zero_right x h0
 generalize x.tdiv (Int.gcd x y:Int)=q at*
 generalize y.tdiv (Int.gcd x y:Int)=p at*
 generalize hgg:(Int.gcd x y:Int)=g at*
 have h1:p∣q*u-1:=Int.natAbs_dvd.1 (dvd_emod6 h.dvd)
 have hd:y∣g-x*u:=by
  obtain⟨t,ht⟩:=h1
  refine⟨-t,?_⟩
  rw [←e1,←e2]
  have:q*g*u=g*(q*u):=by grind
  rw [this,show q*u=p*t+1 by omega]
  grind
 refine⟨⟨fun e=>absurd e h0,?_,fun _=>h.lo,fun _=>?_⟩,Nat.mod_eq_zero_of_dvd (Int.natAbs_dvd_natAbs.2 hd)⟩
 ·rw [Int.mul_tdiv_cancel' hd,hgg];omega
 ·rw [hgg]
  have h2:u*g<(p.natAbs:Int)*g:=Int.mul_lt_mul_of_pos_right h.hi (by omega)
  have h3:(y.natAbs:Int)=p.natAbs*g:=by
   rw [←e2,Int.natAbs_mul]
   have:(g.natAbs:Int)=g:=by omega
   rw [Int.natCast_mul,this]
  omega
theorem bez_of_iv {x y u:Int}(h0:y≠0) (hg:(Int.gcd x y:Int)=1) (h:Iv (x%(y.natAbs:Int)) (y.natAbs:Int) u):∃v,Bez x y u v:=by
 have h1:y∣x*u-1:=Int.natAbs_dvd.1 (dvd_emod6 h.dvd)
 have hd:y∣1-x*u:=by
  obtain⟨t,ht⟩:=h1
  exact⟨-t,by rw [Int.mul_neg];omega⟩
 refine⟨(1-x*u).tdiv y,fun e=>absurd e h0,?_,fun _=>h.lo,fun _=>?_⟩
 ·rw [Int.mul_tdiv_cancel' hd,hg];omega
 ·rw [hg,Int.mul_one];exact h.hi
set_option maxHeartbeats 4000000 in
theorem k_ref5_Euclid {w:World}{sa:Bool}{Aa:Option Addr}{na ca:Nat}{x:Int}{sb:Bool}{Ab:Option Addr}{nb cb:Nat}{y:Int}{b:Nat}(hb:b≤w.heap.size) (hx:Zi w sa Aa na ca x) (la:na≤8589934591) (hy:Zi w sb Ab nb cb y) (lb:nb≤8589934591) (h0:y≠0):
    Calls Tryz.prog 99 #[.agg #[.bool sa,.slice Aa na ca],.agg #[.bool sb,.slice Ab nb cb]] w (Gv w (T3 (ZR b (x/y)) (ZR b (x%y)) (Is (.int .i64 0)))):=by
 refine Calls.mono (R:=Gv w (T3 (ZR w.heap.size (x/y)) (ZR w.heap.size (x%y)) (Is (.int .i64 0)))) ?_ (Gv.imp (T3.imp (ZR.imp hb) (ZR.imp hb) Is.imp))
 have Lx:ln x≤8589934591:=Nat.le_trans hx.ln la
 have Ly:ln y≤8589934591:=Nat.le_trans hy.ln lb
 refine sx_enter Tryz.func99 rfl (n:=42) rfl (bq rfl) (args:= [.agg #[.bool sa,.slice Aa na ca],.agg #[.bool sb,.slice Ab nb cb]]) (cw_keep [(0,.agg #[.bool sa,.slice Aa na ca]),(1,.agg #[.bool sb,.slice Ab nb cb])] ⟨rfl,rfl,trivial⟩ (sr (bx [.bool sa,.slice Aa na ca] (Ext.refl w) rfl rfl rfl fun g1 v2 hb4 ge5 e3 hw1=>(bxq [.bool sb,.slice Ab nb cb] hw1 hb4.lt rfl rfl rfl fun g6 v7 hb9 ge10 q11 e8 hw2=>(alq [F0,S0] hw2 hb9.lt (fun _=>by kernel_rfl) rfl fun g12 v13 hb15 ge16 q17 e14 hw3=>(alq [F0,S0] hw3 hb15.lt (fun _=>by kernel_rfl) rfl fun g18 v19 hb21 ge22 q23 e20 hw4=>(mv 1 rfl (ne_ (sr (lo aggInt (hb4.ext (e8.trans (e14.trans e20))) [.bool sa,.slice Aa na ca] rfl rfl rfl (lo aggInt (hb9.ext (e14.trans e20)) [.bool sb,.slice Ab nb cb] rfl rfl rfl ?_)))))))))))
 have L24:ln (x.tdiv y)≤8589934591:=Nat.le_trans (ln_tdiv _ _) Lx
 have L25:ln (x.tmod y)≤8589934591:=Nat.le_trans (ln_tmod _ _) Lx
 refine cl (vs:= [.agg #[.bool sa,.slice Aa na ca],.agg #[.bool sb,.slice Ab nb cb]]) hw4 (g_ref5_Trunc hw4.size (hx.ext hw4) (lx_ la rfl) (hy.ext hw4) (lx_ lb rfl) h0) rfl (by kernel_rfl) fun xr28 v26 r28 e27 hw5=>?_
 obtain⟨_,_,_,rfl,⟨s30,A30,n30,c30,rfl,z30⟩,⟨s31,A31,n31,c31,rfl,z31⟩,rfl⟩:=r28
 refine mv 1 rfl (pu (v:= .agg #[.bool s30,.slice A30 n30 c30]) rfl (by kernel_rfl) (pu (v:= .agg #[.bool s31,.slice A31 n31 c31]) rfl (by kernel_rfl) (pu (v:= .int .i64 0) rfl (by kernel_rfl) (alq [F0,S0] hw5 (hb21.ext e27).lt (fun _=>by kernel_rfl) rfl fun g32 v33 hb35 ge36 q37 e34 hw6=>(alq [F0,S0] hw6 hb35.lt (fun _=>by kernel_rfl) rfl fun g38 v39 hb41 ge42 q43 e40 hw7=>?_)))))
 have hb45:=(hb35.ext e40)
 refine so aggInt hb45 [.bool s30,.slice A30 n30 c30] hw7 ge36 rfl rfl rfl rfl fun v44 hb46 u47 hw8=>?_
 have hb50:=(hb41.updN u47 (by omega))
 refine so aggInt hb50 [.bool s31,.slice A31 n31 c31] hw8 ge42 rfl rfl rfl rfl fun v49 hb51 u52 hw9=>(mv 1 rfl (ne_ (cw_seq (cw_seq ?_))))
 have he2:=Int.tdiv_mul_add_tmod x y
 have ha:=tmod_abs (x:=x) h0
 by_cases hk:0≤x.tmod y
 · 
  have hu:=eu_u6 (q:=x.tdiv y) (r:=x.tmod y) (x:=x) h0 he2 hk (by omega)
  refine cw_region (mv 1 rfl (pu (v:= .bool false) rfl (by kernel_rfl) (mv 1 rfl (lo aggInt hb51 [.bool s31,.slice A31 n31 c31] rfl rfl rfl (cl (vs:= [.agg #[.bool s31,.slice A31 n31 c31]]) hw9 (g_ref5_Sign (((z31.ext (e34.trans e40)).updT hb45 u47).updT hb50 u52).zi (z31.le (lx_ L25 rfl))) rfl (by kernel_rfl) fun xr56 v54 r56 e55 hw10=>?_)))))
  obtain rfl:=r56
  refine wl_cmp rfl rfl rfl true (scmp_ge_t hk) (by decide) (pu (v:= .bool true) rfl (by kernel_rfl) (ne_ (cw_true rfl (cw_seq (cw_keep [(3,.pointer (some ⟨g6,0,none⟩)),(4,.pointer (some ⟨g12,0,none⟩)),(5,.pointer (some ⟨g18,0,none⟩)),(7,.pointer (some ⟨g32,0,none⟩)),(8,.pointer (some ⟨g38,0,none⟩)),(9,.int .i64 0)] ⟨rfl,rfl,rfl,rfl,rfl,rfl,trivial⟩ ?_)))))
  obtain⟨v57,hv,e58⟩:∃v,v=v54.drew∧Ext v54 v:=⟨_,rfl,(Ext.refl _).drew⟩
  have hw11:=hw10.trans e58
  have hb60:=((((hb15.ext (e20.trans (e27.trans (e34.trans e40)))).updN u47 (by omega)).updN u52 (by omega)).ext (e55.trans e58))
  obtain⟨v59,hr64,hb61,u62,hs63⟩:=run_stored (P:=Tryz.prog) (us:= [.bool s30,.slice A30 n30 c30]) (off:=0) aggInt rfl hb60 (bq rfl) rfl [.bool s30,.slice A30 n30 c30] rfl
  have hw12:=u62.ext hw11 ge16
  have hb66:=(((((hb21.ext (e27.trans (e34.trans e40))).updN u47 (by omega)).updN u52 (by omega)).ext (e55.trans e58)).updN u62 (by omega))
  obtain⟨v65,hr70,hb67,u68,hs69⟩:=run_stored (P:=Tryz.prog) (us:= [.bool s31,.slice A31 n31 c31]) (off:=0) aggInt rfl hb66 (bq rfl) rfl [.bool s31,.slice A31 n31 c31] rfl
  have hw13:=u68.ext hw12 ge22
  refine cw_det mix (w:=v57) [.agg #[.bool s30,.slice A30 n30 c30],.agg #[.bool s31,.slice A31 n31 c31],I0,undef,undef,I0] [v57,v59,v65] [3,4] [[],[],[],[0],[1],[2]] [[],[],[],[0],[0,1,3],[0,1,2,3,4]] [(0,0),(1,0),(1,1),(2,0),(2,1),(2,2),(3,0),(4,1),(5,2)] rfl hv ?_ ?_
  · 
   refine dobs_val _ rfl rfl rfl rfl rfl (rd_load rfl (load_agg aggInt ((hb46.updN u52 (by omega)).ext (e55.trans e58)) [.bool s30,.slice A30 n30 c30] rfl (bq rfl) rfl)) (dobs_val _ rfl rfl rfl rfl rfl (rd_load rfl (load_agg aggInt (hb51.ext (e55.trans e58)) [.bool s31,.slice A31 n31 c31] rfl (bq rfl) rfl)) (dobs_val _ rfl rfl rfl rfl rfl (rd_load rfl (load_agg aggInt ((hb51.ext (e55.trans e58)).updN u62 (by omega)) [.bool s31,.slice A31 n31 c31] rfl (bq rfl) rfl)) (dobs_val _ rfl rfl rfl rfl rfl (rd_move rfl) (dobs_val _ rfl rfl rfl rfl rfl (rd_move rfl) (dobs_val _ rfl rfl rfl rfl rfl (rd_move rfl) (dobs_sto _ rfl rfl rfl rfl rfl (rd_store rfl rfl hr64) (dobs_sto _ rfl rfl rfl rfl rfl (rd_store rfl rfl hr70) (dobs_val _ rfl rfl rfl rfl rfl (rd_assign rfl) ?_))))))))
   exact dobs_nil
  clear hv
  refine eo_keep [(3,.pointer (some ⟨g6,0,none⟩)),(4,.pointer (some ⟨g12,0,none⟩)),(5,.pointer (some ⟨g18,0,none⟩)),(7,.pointer (some ⟨g32,0,none⟩)),(8,.pointer (some ⟨g38,0,none⟩)),(6,.int .i64 0)] ⟨rfl,rfl,rfl,rfl,rfl,rfl,trivial⟩ (eo_then (cw_ret (eo_thenR (eo_ret [.agg #[.bool s30,.slice A30 n30 c30],.agg #[.bool s31,.slice A31 n31 c31],I0] rfl ⟨⟨_,rfl,load_agg aggInt (hb61.updN u68 (by omega)) [.bool s30,.slice A30 n30 c30] rfl (bq rfl) rfl⟩,⟨_,rfl,load_agg aggInt hb67 [.bool s31,.slice A31 n31 c31] rfl (bq rfl) rfl⟩,rfl,trivial⟩ ?_))))
  exact⟨_,rfl,⟨_,_,_,rfl,⟨_,_,_,_,rfl,(((((((z30.ext (e34.trans e40)).updT hb45 u47).updT hb50 u52).ext (e55.trans e58)).updT hb60 u62).updT hb66 u68)).cast (hu.1)⟩,⟨_,_,_,_,rfl,(((((((z31.ext (e34.trans e40)).updT hb45 u47).updT hb50 u52).ext (e55.trans e58)).updT hb60 u62).updT hb66 u68)).cast (hu.2)⟩,rfl⟩,hw13⟩
 · 
  refine cw_region (mv 1 rfl (pu (v:= .bool false) rfl (by kernel_rfl) (mv 1 rfl (lo aggInt hb51 [.bool s31,.slice A31 n31 c31] rfl rfl rfl (cl (vs:= [.agg #[.bool s31,.slice A31 n31 c31]]) hw9 (g_ref5_Sign (((z31.ext (e34.trans e40)).updT hb45 u47).updT hb50 u52).zi (z31.le (lx_ L25 rfl))) rfl (by kernel_rfl) fun xr73 v71 r73 e72 hw10=>?_)))))
  obtain rfl:=r73
  refine wl_cmp rfl rfl rfl false (scmp_ge_f (by omega)) (by decide) (pu (v:= .bool false) rfl (by kernel_rfl) (ne_ (cw_false rfl (cw_skip (eo_then (cw_seq (cw_seq ?_)))))))
  by_cases hp:0<y
  · 
   have hu:=eu_u6 (q:=x.tdiv y-1) (r:=x.tmod y+(Int.natAbs y:Int)) (x:=x) h0 (by rw [Int.sub_mul,Int.one_mul];omega) (by omega) (by omega)
   refine cw_region (lo aggInt ((((hb9.ext (e14.trans (e20.trans (e27.trans (e34.trans e40))))).updN u47 (by omega)).updN u52 (by omega)).ext e72) [.bool sb,.slice Ab nb cb] rfl rfl rfl (cl (vs:= [.agg #[.bool sb,.slice Ab nb cb]]) hw10 (g_ref5_Sign (hy.ext hw10) (lx_ lb rfl)) rfl (by kernel_rfl) fun xr76 v74 r76 e75 hw11=>?_))
   obtain rfl:=r76
   refine wl_cmp rfl rfl rfl true (scmp_gt_t hp) (by decide) (ne_ (cw_true rfl ?_))
   have L78:ln ((x.tdiv y)-1)≤8589934592:=Nat.le_trans (ln_sub L24 (show ln 1≤1 by decide+kernel)) (by decide)
   refine cw_draw mix 3 [] [Is (.agg #[.bool s30,.slice A30 n30 c30]),ZR w.heap.size (1),ZR w.heap.size ((x.tdiv y)-1)] [[],[],[0,1]] [[],[],[0,1],[0,1,2]] rfl
    (obs_cons rfl rfl (hob rfl rfl ?_) (obs_cons rfl rfl (hob rfl rfl ?_) (obs_cons rfl rfl (hob rfl rfl ?_) obs_nil))) ?_
   · 
    exact fun _ e81=>deps_nil (lo aggInt ((hb46.updN u52 (by omega)).ext (e72.trans (e75.trans e81))) [.bool s30,.slice A30 n30 c30] rfl rfl rfl (pi_done rfl (Ext.refl _) rfl))
   · 
    intro v82 e83
    have hw12:=hw11.trans e83
    refine deps_nil (cl (vs:= [.int .i64 1]) hw12 (g_ref5_Of_p1 hw12.size) rfl (by kernel_rfl) fun xr86 v84 r86 e85 hw13=>?_)
    obtain⟨s87,A87,n87,c87,rfl,z87⟩:=r86
    exact pi_done rfl e85 ⟨_,_,_,_,rfl,z87⟩
   · 
    intro v88 e89
    have hw12:=hw11.trans e89
    refine dk rfl rfl (deps_cons rfl rfl fun x95 y96 h97 e98 f99=>?_)
    obtain⟨s100,A100,n100,c100,rfl,z100⟩:=h97
    have z100:=z100.ext f99
    refine deps_nil ?_
    have L101:ln ((x.tdiv y)-1)≤8589934592:=Nat.le_trans (ln_sub L24 (show ln 1≤1 by decide+kernel)) (by decide)
    refine cl (vs:= [.agg #[.bool s30,.slice A30 n30 c30],.agg #[.bool s100,.slice A100 n100 c100]]) hw12 (g_ref5_Sub hw12.size ((((z30.ext (e34.trans e40)).updT hb45 u47).updT hb50 u52).ext (e72.trans (e75.trans e89))).zi (z30.le (lx_ L24 rfl)) z100.zi (z100.le (Nat.le_trans (show ln 1≤1 by decide+kernel) (by decide)))) rfl (by kernel_rfl) fun xr104 v102 r104 e103 hw13=>?_
    obtain⟨s105,A105,n105,c105,rfl,z105⟩:=r104
    exact pi_done rfl e103 ⟨_,_,_,_,rfl,z105⟩
   · 
    intro v106 e107
    have hw12:=hw11.trans e107
    refine dk rfl rfl (deps_cons rfl rfl fun x113 y114 h115 e116 f117=>?_)
    obtain⟨s118,A118,n118,c118,rfl,z118⟩:=h115
    have z118:=z118.ext f117
    refine deps_cons rfl rfl fun x119 y120 h121 e122 f123=>?_
    obtain⟨s124,A124,n124,c124,rfl,z124⟩:=h121
    have z124:=z124.ext f123
    refine deps_nil ?_
    have hb126:=((hb46.updN u52 (by omega)).ext (e72.trans (e75.trans e107)))
    refine so aggInt hb126 [.bool s124,.slice A124 n124 c124] hw12 ge36 rfl rfl rfl rfl fun v125 hb127 u128 hw13=>(wl_nil (eo_np (eo_then (cw_seq ?_))))
    have L130:ln ((Int.natAbs y:Int))≤8589934591:=(by rw [ln_abs];exact Ly)
    have L132:ln ((x.tmod y)+(Int.natAbs y:Int))≤8589934592:=Nat.le_trans (ln_add L25 L130) (by decide)
    refine cw_draw mix 4 [] [Is (.agg #[.bool s31,.slice A31 n31 c31]),Is (.agg #[.bool sb,.slice Ab nb cb]),ZR w.heap.size ((Int.natAbs y:Int)),ZR w.heap.size ((x.tmod y)+(Int.natAbs y:Int))] [[],[],[1],[0,2]] [[],[],[1],[0,1,2],[0,1,2,3]] rfl
     (obs_cons rfl rfl (hob rfl rfl ?_) (obs_cons rfl rfl (hob rfl rfl ?_) (obs_cons rfl rfl (hob rfl rfl ?_) (obs_cons rfl rfl (hob rfl rfl ?_) obs_nil)))) ?_
    · 
     exact fun _ e135=>deps_nil (lo aggInt (((hb51.ext (e72.trans (e75.trans e107))).updN u128 (by omega)).ext e135) [.bool s31,.slice A31 n31 c31] rfl rfl rfl (pi_done rfl (Ext.refl _) rfl))
    · 
     exact fun _ e137=>deps_nil (lo aggInt ((((((hb9.ext (e14.trans (e20.trans (e27.trans (e34.trans e40))))).updN u47 (by omega)).updN u52 (by omega)).ext (e72.trans (e75.trans e107))).updN u128 (by omega)).ext e137) [.bool sb,.slice Ab nb cb] rfl rfl rfl (pi_done rfl (Ext.refl _) rfl))
    · 
     intro v138 e139
     have hw14:=hw13.trans e139
     refine dk rfl rfl (deps_nil ?_)
     have L145:ln ((Int.natAbs y:Int))≤8589934591:=(by rw [ln_abs];exact Ly)
     refine cl (vs:= [.agg #[.bool sb,.slice Ab nb cb]]) hw14 (g_ref5_Abs hw14.size (hy.ext hw14) (lx_ lb rfl)) rfl (by kernel_rfl) fun xr148 v146 r148 e147 hw15=>?_
     obtain⟨s149,A149,n149,c149,rfl,z149⟩:=r148
     exact pi_done rfl e147 ⟨_,_,_,_,rfl,z149⟩
    · 
     intro v150 e151
     have hw14:=hw13.trans e151
     refine dk rfl rfl (deps_cons rfl rfl fun x157 y158 h159 e160 f161=>?_)
     obtain⟨s162,A162,n162,c162,rfl,z162⟩:=h159
     have z162:=z162.ext f161
     refine deps_nil ?_
     have L163:ln ((x.tmod y)+(Int.natAbs y:Int))≤8589934592:=Nat.le_trans (ln_add L25 L130) (by decide)
     refine cl (vs:= [.agg #[.bool s31,.slice A31 n31 c31],.agg #[.bool s162,.slice A162 n162 c162]]) hw14 (g_ref5_Add hw14.size ((((((z31.ext (e34.trans e40)).updT hb45 u47).updT hb50 u52).ext (e72.trans (e75.trans e107))).updT hb126 u128).ext e151).zi (z31.le (lx_ L25 rfl)) z162.zi (z162.le (lx_ L130 rfl))) rfl (by kernel_rfl) fun xr166 v164 r166 e165 hw15=>?_
     obtain⟨s167,A167,n167,c167,rfl,z167⟩:=r166
     exact pi_done rfl e165 ⟨_,_,_,_,rfl,z167⟩
    · 
     intro v168 e169
     have hw14:=hw13.trans e169
     refine dk rfl rfl (dk rfl rfl (deps_cons rfl rfl fun x180 y181 h182 e183 f184=>?_))
     obtain⟨s185,A185,n185,c185,rfl,z185⟩:=h182
     have z185:=z185.ext f184
     refine deps_cons rfl rfl fun x186 y187 h188 e189 f190=>?_
     obtain⟨s191,A191,n191,c191,rfl,z191⟩:=h188
     have z191:=z191.ext f190
     refine deps_nil ?_
     have hb193:=(((hb51.ext (e72.trans (e75.trans e107))).updN u128 (by omega)).ext e169)
     refine so aggInt hb193 [.bool s191,.slice A191 n191 c191] hw14 ge42 rfl rfl rfl rfl fun v192 hb194 u195 hw15=>(wl_nil (eo_np (eo_then (cw_seq (cw_keep [(4,.pointer (some ⟨g12,0,none⟩)),(5,.pointer (some ⟨g18,0,none⟩)),(7,.pointer (some ⟨g32,0,none⟩)),(8,.pointer (some ⟨g38,0,none⟩))] ⟨rfl,rfl,rfl,rfl,trivial⟩ ?_)))))
     obtain⟨v197,hv,e198⟩:∃v,v=v192.drew∧Ext v192 v:=⟨_,rfl,(Ext.refl _).drew⟩
     have hw16:=hw15.trans e198
     have hb200:=((((((((hb15.ext (e20.trans (e27.trans (e34.trans e40)))).updN u47 (by omega)).updN u52 (by omega)).ext (e72.trans (e75.trans e107))).updN u128 (by omega)).ext e169).updN u195 (by omega)).ext e198)
     obtain⟨v199,hr204,hb201,u202,hs203⟩:=run_stored (P:=Tryz.prog) (us:= [.bool s124,.slice A124 n124 c124]) (off:=0) aggInt rfl hb200 (bq rfl) rfl [.bool s124,.slice A124 n124 c124] rfl
     have hw17:=u202.ext hw16 ge16
     have hb206:=(((((((((hb21.ext (e27.trans (e34.trans e40))).updN u47 (by omega)).updN u52 (by omega)).ext (e72.trans (e75.trans e107))).updN u128 (by omega)).ext e169).updN u195 (by omega)).ext e198).updN u202 (by omega))
     obtain⟨v205,hr210,hb207,u208,hs209⟩:=run_stored (P:=Tryz.prog) (us:= [.bool s191,.slice A191 n191 c191]) (off:=0) aggInt rfl hb206 (bq rfl) rfl [.bool s191,.slice A191 n191 c191] rfl
     have hw18:=u208.ext hw17 ge22
     refine cw_det mix (w:=v197) [.agg #[.bool s124,.slice A124 n124 c124],.agg #[.bool s191,.slice A191 n191 c191],undef,undef,I0] [v197,v199,v205] [2,3] [[],[],[0],[1],[]] [[],[],[0],[0,1,2],[0,1,2,3]] [(0,0),(1,0),(1,1),(2,0),(3,1),(4,2)] rfl hv ?_ ?_
     · 
      refine dobs_val _ rfl rfl rfl rfl rfl (rd_load rfl (load_agg aggInt (((hb127.ext e169).updN u195 (by omega)).ext e198) [.bool s124,.slice A124 n124 c124] rfl (bq rfl) rfl)) (dobs_val _ rfl rfl rfl rfl rfl (rd_load rfl (load_agg aggInt (hb194.ext e198) [.bool s191,.slice A191 n191 c191] rfl (bq rfl) rfl)) (dobs_val _ rfl rfl rfl rfl rfl (rd_load rfl (load_agg aggInt ((hb194.ext e198).updN u202 (by omega)) [.bool s191,.slice A191 n191 c191] rfl (bq rfl) rfl)) (dobs_sto _ rfl rfl rfl rfl rfl (rd_store rfl rfl hr204) (dobs_sto _ rfl rfl rfl rfl rfl (rd_store rfl rfl hr210) (dobs_val _ rfl rfl rfl rfl rfl (rd_assign rfl) ?_)))))
      exact dobs_nil
     clear hv
     refine eo_keep [(4,.pointer (some ⟨g12,0,none⟩)),(5,.pointer (some ⟨g18,0,none⟩)),(6,.int .i64 0)] ⟨rfl,rfl,rfl,trivial⟩ (eo_then (cw_ret (eo_ret [.agg #[.bool s124,.slice A124 n124 c124],.agg #[.bool s191,.slice A191 n191 c191],I0] rfl ⟨⟨_,rfl,load_agg aggInt (hb201.updN u208 (by omega)) [.bool s124,.slice A124 n124 c124] rfl (bq rfl) rfl⟩,⟨_,rfl,load_agg aggInt hb207 [.bool s191,.slice A191 n191 c191] rfl (bq rfl) rfl⟩,rfl,trivial⟩ ?_)))
     exact⟨_,rfl,⟨_,_,_,rfl,⟨_,_,_,_,rfl,(((((((z124.updT hb126 u128).ext e169).updT hb193 u195).ext e198).updT hb200 u202).updT hb206 u208)).cast (hu.1)⟩,⟨_,_,_,_,rfl,(((((z191.updT hb193 u195).ext e198).updT hb200 u202).updT hb206 u208)).cast (hu.2)⟩,rfl⟩,hw18⟩
  · 
   have hu:=eu_u6 (q:=x.tdiv y+1) (r:=x.tmod y+(Int.natAbs y:Int)) (x:=x) h0 (by rw [Int.add_mul,Int.one_mul];omega) (by omega) (by omega)
   refine cw_region (lo aggInt ((((hb9.ext (e14.trans (e20.trans (e27.trans (e34.trans e40))))).updN u47 (by omega)).updN u52 (by omega)).ext e72) [.bool sb,.slice Ab nb cb] rfl rfl rfl (cl (vs:= [.agg #[.bool sb,.slice Ab nb cb]]) hw10 (g_ref5_Sign (hy.ext hw10) (lx_ lb rfl)) rfl (by kernel_rfl) fun xr213 v211 r213 e212 hw11=>?_))
   obtain rfl:=r213
   refine wl_cmp rfl rfl rfl false (scmp_gt_f (by omega)) (by decide) (ne_ (cw_false rfl ?_))
   have L215:ln ((x.tdiv y)+1)≤8589934592:=Nat.le_trans (ln_add L24 (show ln 1≤1 by decide+kernel)) (by decide)
   refine cw_draw mix 3 [] [Is (.agg #[.bool s30,.slice A30 n30 c30]),ZR w.heap.size (1),ZR w.heap.size ((x.tdiv y)+1)] [[],[],[0,1]] [[],[],[0,1],[0,1,2]] rfl
    (obs_cons rfl rfl (hob rfl rfl ?_) (obs_cons rfl rfl (hob rfl rfl ?_) (obs_cons rfl rfl (hob rfl rfl ?_) obs_nil))) ?_
   · 
    exact fun _ e218=>deps_nil (lo aggInt ((hb46.updN u52 (by omega)).ext (e72.trans (e212.trans e218))) [.bool s30,.slice A30 n30 c30] rfl rfl rfl (pi_done rfl (Ext.refl _) rfl))
   · 
    intro v219 e220
    have hw12:=hw11.trans e220
    refine deps_nil (cl (vs:= [.int .i64 1]) hw12 (g_ref5_Of_p1 hw12.size) rfl (by kernel_rfl) fun xr223 v221 r223 e222 hw13=>?_)
    obtain⟨s224,A224,n224,c224,rfl,z224⟩:=r223
    exact pi_done rfl e222 ⟨_,_,_,_,rfl,z224⟩
   · 
    intro v225 e226
    have hw12:=hw11.trans e226
    refine dk rfl rfl (deps_cons rfl rfl fun x232 y233 h234 e235 f236=>?_)
    obtain⟨s237,A237,n237,c237,rfl,z237⟩:=h234
    have z237:=z237.ext f236
    refine deps_nil ?_
    have L238:ln ((x.tdiv y)+1)≤8589934592:=Nat.le_trans (ln_add L24 (show ln 1≤1 by decide+kernel)) (by decide)
    refine cl (vs:= [.agg #[.bool s30,.slice A30 n30 c30],.agg #[.bool s237,.slice A237 n237 c237]]) hw12 (g_ref5_Add hw12.size ((((z30.ext (e34.trans e40)).updT hb45 u47).updT hb50 u52).ext (e72.trans (e212.trans e226))).zi (z30.le (lx_ L24 rfl)) z237.zi (z237.le (Nat.le_trans (show ln 1≤1 by decide+kernel) (by decide)))) rfl (by kernel_rfl) fun xr241 v239 r241 e240 hw13=>?_
    obtain⟨s242,A242,n242,c242,rfl,z242⟩:=r241
    exact pi_done rfl e240 ⟨_,_,_,_,rfl,z242⟩
   · 
    intro v243 e244
    have hw12:=hw11.trans e244
    refine dk rfl rfl (deps_cons rfl rfl fun x250 y251 h252 e253 f254=>?_)
    obtain⟨s255,A255,n255,c255,rfl,z255⟩:=h252
    have z255:=z255.ext f254
    refine deps_cons rfl rfl fun x256 y257 h258 e259 f260=>?_
    obtain⟨s261,A261,n261,c261,rfl,z261⟩:=h258
    have z261:=z261.ext f260
    refine deps_nil ?_
    have hb263:=((hb46.updN u52 (by omega)).ext (e72.trans (e212.trans e244)))
    refine so aggInt hb263 [.bool s261,.slice A261 n261 c261] hw12 ge36 rfl rfl rfl rfl fun v262 hb264 u265 hw13=>(wl_nil (eo_np (eo_then (cw_seq ?_))))
    have L267:ln ((Int.natAbs y:Int))≤8589934591:=(by rw [ln_abs];exact Ly)
    have L269:ln ((x.tmod y)+(Int.natAbs y:Int))≤8589934592:=Nat.le_trans (ln_add L25 L267) (by decide)
    refine cw_draw mix 4 [] [Is (.agg #[.bool s31,.slice A31 n31 c31]),Is (.agg #[.bool sb,.slice Ab nb cb]),ZR w.heap.size ((Int.natAbs y:Int)),ZR w.heap.size ((x.tmod y)+(Int.natAbs y:Int))] [[],[],[1],[0,2]] [[],[],[1],[0,1,2],[0,1,2,3]] rfl
     (obs_cons rfl rfl (hob rfl rfl ?_) (obs_cons rfl rfl (hob rfl rfl ?_) (obs_cons rfl rfl (hob rfl rfl ?_) (obs_cons rfl rfl (hob rfl rfl ?_) obs_nil)))) ?_
    · 
     exact fun _ e272=>deps_nil (lo aggInt (((hb51.ext (e72.trans (e212.trans e244))).updN u265 (by omega)).ext e272) [.bool s31,.slice A31 n31 c31] rfl rfl rfl (pi_done rfl (Ext.refl _) rfl))
    · 
     exact fun _ e274=>deps_nil (lo aggInt ((((((hb9.ext (e14.trans (e20.trans (e27.trans (e34.trans e40))))).updN u47 (by omega)).updN u52 (by omega)).ext (e72.trans (e212.trans e244))).updN u265 (by omega)).ext e274) [.bool sb,.slice Ab nb cb] rfl rfl rfl (pi_done rfl (Ext.refl _) rfl))
    · 
     intro v275 e276
     have hw14:=hw13.trans e276
     refine dk rfl rfl (deps_nil ?_)
     have L282:ln ((Int.natAbs y:Int))≤8589934591:=(by rw [ln_abs];exact Ly)
     refine cl (vs:= [.agg #[.bool sb,.slice Ab nb cb]]) hw14 (g_ref5_Abs hw14.size (hy.ext hw14) (lx_ lb rfl)) rfl (by kernel_rfl) fun xr285 v283 r285 e284 hw15=>?_
     obtain⟨s286,A286,n286,c286,rfl,z286⟩:=r285
     exact pi_done rfl e284 ⟨_,_,_,_,rfl,z286⟩
    · 
     intro v287 e288
     have hw14:=hw13.trans e288
     refine dk rfl rfl (deps_cons rfl rfl fun x294 y295 h296 e297 f298=>?_)
     obtain⟨s299,A299,n299,c299,rfl,z299⟩:=h296
     have z299:=z299.ext f298
     refine deps_nil ?_
     have L300:ln ((x.tmod y)+(Int.natAbs y:Int))≤8589934592:=Nat.le_trans (ln_add L25 L267) (by decide)
     refine cl (vs:= [.agg #[.bool s31,.slice A31 n31 c31],.agg #[.bool s299,.slice A299 n299 c299]]) hw14 (g_ref5_Add hw14.size ((((((z31.ext (e34.trans e40)).updT hb45 u47).updT hb50 u52).ext (e72.trans (e212.trans e244))).updT hb263 u265).ext e288).zi (z31.le (lx_ L25 rfl)) z299.zi (z299.le (lx_ L267 rfl))) rfl (by kernel_rfl) fun xr303 v301 r303 e302 hw15=>?_
     obtain⟨s304,A304,n304,c304,rfl,z304⟩:=r303
     exact pi_done rfl e302 ⟨_,_,_,_,rfl,z304⟩
    · 
     intro v305 e306
     have hw14:=hw13.trans e306
     refine dk rfl rfl (dk rfl rfl (deps_cons rfl rfl fun x317 y318 h319 e320 f321=>?_))
     obtain⟨s322,A322,n322,c322,rfl,z322⟩:=h319
     have z322:=z322.ext f321
     refine deps_cons rfl rfl fun x323 y324 h325 e326 f327=>?_
     obtain⟨s328,A328,n328,c328,rfl,z328⟩:=h325
     have z328:=z328.ext f327
     refine deps_nil ?_
     have hb330:=(((hb51.ext (e72.trans (e212.trans e244))).updN u265 (by omega)).ext e306)
     refine so aggInt hb330 [.bool s328,.slice A328 n328 c328] hw14 ge42 rfl rfl rfl rfl fun v329 hb331 u332 hw15=>(wl_nil (eo_np (eo_then (cw_seq (cw_keep [(4,.pointer (some ⟨g12,0,none⟩)),(5,.pointer (some ⟨g18,0,none⟩)),(7,.pointer (some ⟨g32,0,none⟩)),(8,.pointer (some ⟨g38,0,none⟩))] ⟨rfl,rfl,rfl,rfl,trivial⟩ ?_)))))
     obtain⟨v334,hv,e335⟩:∃v,v=v329.drew∧Ext v329 v:=⟨_,rfl,(Ext.refl _).drew⟩
     have hw16:=hw15.trans e335
     have hb337:=((((((((hb15.ext (e20.trans (e27.trans (e34.trans e40)))).updN u47 (by omega)).updN u52 (by omega)).ext (e72.trans (e212.trans e244))).updN u265 (by omega)).ext e306).updN u332 (by omega)).ext e335)
     obtain⟨v336,hr341,hb338,u339,hs340⟩:=run_stored (P:=Tryz.prog) (us:= [.bool s261,.slice A261 n261 c261]) (off:=0) aggInt rfl hb337 (bq rfl) rfl [.bool s261,.slice A261 n261 c261] rfl
     have hw17:=u339.ext hw16 ge16
     have hb343:=(((((((((hb21.ext (e27.trans (e34.trans e40))).updN u47 (by omega)).updN u52 (by omega)).ext (e72.trans (e212.trans e244))).updN u265 (by omega)).ext e306).updN u332 (by omega)).ext e335).updN u339 (by omega))
     obtain⟨v342,hr347,hb344,u345,hs346⟩:=run_stored (P:=Tryz.prog) (us:= [.bool s328,.slice A328 n328 c328]) (off:=0) aggInt rfl hb343 (bq rfl) rfl [.bool s328,.slice A328 n328 c328] rfl
     have hw18:=u345.ext hw17 ge22
     refine cw_det mix (w:=v334) [.agg #[.bool s261,.slice A261 n261 c261],.agg #[.bool s328,.slice A328 n328 c328],undef,undef,I0] [v334,v336,v342] [2,3] [[],[],[0],[1],[]] [[],[],[0],[0,1,2],[0,1,2,3]] [(0,0),(1,0),(1,1),(2,0),(3,1),(4,2)] rfl hv ?_ ?_
     · 
      refine dobs_val _ rfl rfl rfl rfl rfl (rd_load rfl (load_agg aggInt (((hb264.ext e306).updN u332 (by omega)).ext e335) [.bool s261,.slice A261 n261 c261] rfl (bq rfl) rfl)) (dobs_val _ rfl rfl rfl rfl rfl (rd_load rfl (load_agg aggInt (hb331.ext e335) [.bool s328,.slice A328 n328 c328] rfl (bq rfl) rfl)) (dobs_val _ rfl rfl rfl rfl rfl (rd_load rfl (load_agg aggInt ((hb331.ext e335).updN u339 (by omega)) [.bool s328,.slice A328 n328 c328] rfl (bq rfl) rfl)) (dobs_sto _ rfl rfl rfl rfl rfl (rd_store rfl rfl hr341) (dobs_sto _ rfl rfl rfl rfl rfl (rd_store rfl rfl hr347) (dobs_val _ rfl rfl rfl rfl rfl (rd_assign rfl) ?_)))))
      exact dobs_nil
     clear hv
     refine eo_keep [(4,.pointer (some ⟨g12,0,none⟩)),(5,.pointer (some ⟨g18,0,none⟩)),(6,.int .i64 0)] ⟨rfl,rfl,rfl,trivial⟩ (eo_then (cw_ret (eo_ret [.agg #[.bool s261,.slice A261 n261 c261],.agg #[.bool s328,.slice A328 n328 c328],I0] rfl ⟨⟨_,rfl,load_agg aggInt (hb338.updN u345 (by omega)) [.bool s261,.slice A261 n261 c261] rfl (bq rfl) rfl⟩,⟨_,rfl,load_agg aggInt hb344 [.bool s328,.slice A328 n328 c328] rfl (bq rfl) rfl⟩,rfl,trivial⟩ ?_)))
     exact⟨_,rfl,⟨_,_,_,rfl,⟨_,_,_,_,rfl,(((((((z261.updT hb263 u265).ext e306).updT hb330 u332).ext e335).updT hb337 u339).updT hb343 u345)).cast (hu.1)⟩,⟨_,_,_,_,rfl,(((((z328.updT hb330 u332).ext e335).updT hb337 u339).updT hb343 u345)).cast (hu.2)⟩,rfl⟩,hw18⟩
set_option maxHeartbeats 4000000 in
theorem k_ref5_Mod {w:World}{sa:Bool}{Aa:Option Addr}{na ca:Nat}{x:Int}{sb:Bool}{Ab:Option Addr}{nb cb:Nat}{y:Int}{b:Nat}(hb:b≤w.heap.size) (hx:Zi w sa Aa na ca x) (la:na≤8589934591) (hy:Zi w sb Ab nb cb y) (lb:nb≤8589934591) (h0:y≠0):
    Calls Tryz.prog 71 #[.agg #[.bool sa,.slice Aa na ca],.agg #[.bool sb,.slice Ab nb cb]] w (Gv w (T2 (ZR b (x%y)) (Is (.int .i64 0)))):=by
 refine Calls.mono (R:=Gv w (T2 (ZR w.heap.size (x%y)) (Is (.int .i64 0)))) ?_ (Gv.imp (T2.imp (ZR.imp hb) Is.imp))
 have Lx:ln x≤8589934591:=Nat.le_trans hx.ln la
 have Ly:ln y≤8589934591:=Nat.le_trans hy.ln lb
 refine sx_enter Tryz.func71 rfl (n:=18) rfl (bq rfl) (args:= [.agg #[.bool sa,.slice Aa na ca],.agg #[.bool sb,.slice Ab nb cb]]) (cw_keep [(0,.agg #[.bool sa,.slice Aa na ca]),(1,.agg #[.bool sb,.slice Ab nb cb])] ⟨rfl,rfl,trivial⟩ (sr (bx [.bool sa,.slice Aa na ca] (Ext.refl w) rfl rfl rfl fun g1 v2 hb4 ge5 e3 hw1=>(bxq [.bool sb,.slice Ab nb cb] hw1 hb4.lt rfl rfl rfl fun g6 v7 hb9 ge10 q11 e8 hw2=>(alq [F0,S0] hw2 hb9.lt (fun _=>by kernel_rfl) rfl fun g12 v13 hb15 ge16 q17 e14 hw3=>(mv 1 rfl (ne_ (sr (lo aggInt (hb4.ext (e8.trans e14)) [.bool sa,.slice Aa na ca] rfl rfl rfl (lo aggInt (hb9.ext e14) [.bool sb,.slice Ab nb cb] rfl rfl rfl ?_))))))))))
 have L18:ln (x/y)≤8589934592:=ln_ediv6 Lx
 have L19:ln (x%y)≤8589934591:=Nat.le_trans (ln_emod h0) Ly
 refine cl (vs:= [.agg #[.bool sa,.slice Aa na ca],.agg #[.bool sb,.slice Ab nb cb]]) hw3 (k_ref5_Euclid hw3.size (hx.ext hw3) (lx_ la rfl) (hy.ext hw3) (lx_ lb rfl) h0) rfl (by kernel_rfl) fun xr22 v20 r22 e21 hw4=>?_
 obtain⟨_,_,_,rfl,⟨s24,A24,n24,c24,rfl,z24⟩,⟨s25,A25,n25,c25,rfl,z25⟩,rfl⟩:=r22
 refine mv 1 rfl (pu (v:= .agg #[.bool s24,.slice A24 n24 c24]) rfl (by kernel_rfl) (pu (v:= .agg #[.bool s25,.slice A25 n25 c25]) rfl (by kernel_rfl) (pu (v:= .int .i64 0) rfl (by kernel_rfl) (alq [F0,S0] hw4 (hb15.ext e21).lt (fun _=>by kernel_rfl) rfl fun g26 v27 hb29 ge30 q31 e28 hw5=>(alq [F0,S0] hw5 hb29.lt (fun _=>by kernel_rfl) rfl fun g32 v33 hb35 ge36 q37 e34 hw6=>?_)))))
 have hb39:=(hb29.ext e34)
 refine so aggInt hb39 [.bool s24,.slice A24 n24 c24] hw6 ge30 rfl rfl rfl rfl fun v38 hb40 u41 hw7=>?_
 have hb44:=(hb35.updN u41 (by omega))
 refine so aggInt hb44 [.bool s25,.slice A25 n25 c25] hw7 ge36 rfl rfl rfl rfl fun v43 hb45 u46 hw8=>(mv 1 rfl (ne_ (sr (lo aggInt hb45 [.bool s25,.slice A25 n25 c25] rfl rfl rfl (mv 1 rfl ?_)))))
 have hb49:=(((hb15.ext (e21.trans (e28.trans e34))).updN u41 (by omega)).updN u46 (by omega))
 refine so aggInt hb49 [.bool s25,.slice A25 n25 c25] hw8 ge16 rfl rfl rfl rfl fun v48 hb50 u51 hw9=>(mv 1 rfl (ne_ (cw_ret (eo_ret [.agg #[.bool s25,.slice A25 n25 c25],I0] rfl ⟨⟨_,rfl,load_agg aggInt hb50 [.bool s25,.slice A25 n25 c25] rfl (bq rfl) rfl⟩,rfl,trivial⟩ ?_))))
 exact⟨_,rfl,⟨_,_,rfl,⟨_,_,_,_,rfl,((((z25.ext (e28.trans e34)).updT hb39 u41).updT hb44 u46).updT hb49 u51)⟩,rfl⟩,hw9⟩
set_option maxHeartbeats 4000000 in
theorem g_ref6_Gcd {w:World}{sa:Bool}{Aa:Option Addr}{na ca:Nat}{x:Int}{sb:Bool}{Ab:Option Addr}{nb cb:Nat}{y:Int}{b:Nat}(hb:b≤w.heap.size) (hx:Zi w sa Aa na ca x) (la:na≤8589934591) (hy:Zi w sb Ab nb cb y) (lb:nb≤8589934591):
    Calls Tryz.prog 35 #[.agg #[.bool sa,.slice Aa na ca],.agg #[.bool sb,.slice Ab nb cb]] w (Gv w (ZR b ((Int.gcd x y:Int)))):=by
 refine Calls.mono (R:=Gv w (ZR w.heap.size ((Int.gcd x y:Int)))) ?_ (Gv.imp (ZR.imp hb))
 have Lx:ln x≤8589934591:=Nat.le_trans hx.ln la
 have Ly:ln y≤8589934591:=Nat.le_trans hy.ln lb
 refine sx_enter Tryz.func35 rfl (n:=13) rfl (bq rfl) (args:= [.agg #[.bool sa,.slice Aa na ca],.agg #[.bool sb,.slice Ab nb cb]]) (cw_keep [(0,.agg #[.bool sa,.slice Aa na ca]),(1,.agg #[.bool sb,.slice Ab nb cb])] ⟨rfl,rfl,trivial⟩ (sr (bx [.bool sa,.slice Aa na ca] (Ext.refl w) rfl rfl rfl fun g1 v2 hb4 ge5 e3 hw1=>(bxq [.bool sb,.slice Ab nb cb] hw1 hb4.lt rfl rfl rfl fun g6 v7 hb9 ge10 q11 e8 hw2=>(alq [F0,S0] hw2 hb9.lt (fun _=>by kernel_rfl) rfl fun g12 v13 hb15 ge16 q17 e14 hw3=>(ne_ (sr (pf g1 1 rfl (by kernel_rfl) (wl_load rfl rfl (load_cell cellWords (hb4.ext (e8.trans e14)) rfl) (by decide) (pf g6 1 rfl (by kernel_rfl) (wl_load rfl rfl (load_cell cellWords (hb9.ext e14) rfl) (by decide) ?_)))))))))))
 have L18:(wd (Nat.gcd (Int.natAbs x) (Int.natAbs y))).length≤8589934591:=Nat.le_trans (ln_gcd x y) (Nat.max_le.2 ⟨Lx,Ly⟩)
 refine cl (vs:= [.slice Aa na ca,.slice Ab nb cb]) hw3 (g_ref3_Gcd hw3.size (hx.ext hw3).wi (lx_ la rfl) (hy.ext hw3).wi (lx_ lb rfl)) rfl (by kernel_rfl) fun xr21 v19 r21 e20 hw4=>?_
 obtain⟨A22,n22,c22,rfl,j22,o22⟩:=r21
 refine mv 1 rfl (ne_ (sr (mv 1 rfl (pu (v:= .agg #[F0,.slice A22 n22 c22]) rfl (by kernel_rfl) ?_))))
 have hb24:=(hb15.ext e20)
 refine so aggInt hb24 [F0,.slice A22 n22 c22] hw4 ge16 rfl rfl rfl rfl fun v23 hb25 u26 hw5=>(ne_ (cw_ret (eo_ret [.agg #[F0,.slice A22 n22 c22]] rfl ⟨⟨_,rfl,load_agg aggInt hb25 [F0,.slice A22 n22 c22] rfl (bq rfl) rfl⟩,trivial⟩ ?_)))
 exact⟨_,rfl,⟨_,_,_,_,rfl,(((Zr_nat j22 o22).updT hb24 u26)).cast (rfl)⟩,hw5⟩
set_option maxHeartbeats 4000000 in
theorem g_ref6_one {w:World}{b:Nat}(hb:b≤w.heap.size):
    Calls Tryz.prog 75 #[] w (Gv w (ZR b (1))):=by
 refine Calls.mono (R:=Gv w (ZR w.heap.size (1))) ?_ (Gv.imp (ZR.imp hb))
 refine sx_enter Tryz.func75 rfl (n:=3) rfl (bq rfl) (args:= []) (cw_keep [] trivial (sr (al [F0,S0] (Ext.refl w) (fun _=>by kernel_rfl) rfl fun g1 v2 hb4 ge5 e3 hw1=>(ne_ (sr (wl_bslice rfl rfl (by decide) (k:=1) (e:=38) [.int .u64 1] (fun _=>by kernel_rfl) fun g6 v7 nb8=>?_))))))
 have o9:=O1.mk_ (x:=1) (b:=w.heap.size) nb8 hw1.size
 have e10:=nb8.ext
 have hw2:=hw1.trans e10
 have o12:=own1_wd o9 (by decide:1≤18446744073709551615) (by decide:1≠0)
 have j11:=len1 (by decide:1≤18446744073709551615) (by decide:1≠0)
 refine pu (v:= .agg #[F0,.slice (some ⟨g6,0,none⟩) 1 1]) rfl (by kernel_rfl) ?_
 have hb14:=(hb4.ext e10)
 refine so aggInt hb14 [F0,.slice (some ⟨g6,0,none⟩) 1 1] hw2 ge5 rfl rfl rfl rfl fun v13 hb15 u16 hw3=>(ne_ (cw_ret (eo_ret [.agg #[F0,.slice (some ⟨g6,0,none⟩) 1 1]] rfl ⟨⟨_,rfl,load_agg aggInt hb15 [F0,.slice (some ⟨g6,0,none⟩) 1 1] rfl (bq rfl) rfl⟩,trivial⟩ ?_)))
 exact⟨_,rfl,⟨_,_,_,_,rfl,(((Zr_nat j11 o12).updT hb14 u16)).cast (rfl)⟩,hw3⟩
def InvC (N:Nat):Prop:=∀(w:World) (b:Nat) (sa:Bool) (Aa:Option Addr) (na ca:Nat) (x:Int) (sb:Bool) (Ab:Option Addr) (nb cb:Nat) (m:Int),x.natAbs<N→b≤w.heap.size→Zi w sa Aa na ca x→na≤1073741824→Zi w sb Ab nb cb m→nb≤1073741824→0<m→0≤x→x<m→Int.gcd x m=1→
 Calls Tryz.prog 72 #[.agg #[.bool sa,.slice Aa na ca],.agg #[.bool sb,.slice Ab nb cb]] w (fun e w'=>∃u,Iv x m u∧Gv w (ZR b u) e w')
set_option maxHeartbeats 4000000 in
theorem g_ref6_inverse_step {w:World}{sa:Bool}{Aa:Option Addr}{na ca:Nat}{x:Int}{sb:Bool}{Ab:Option Addr}{nb cb:Nat}{m:Int}{b:Nat}(hb:b≤w.heap.size) (hx:Zi w sa Aa na ca x) (la:na≤1073741824) (hm:Zi w sb Ab nb cb m) (lb:nb≤1073741824) (h0:0<m) (h1:0≤x) (h2:x<m) (h3:Int.gcd x m=1) (ih:InvC x.natAbs):
    Calls Tryz.prog 72 #[.agg #[.bool sa,.slice Aa na ca],.agg #[.bool sb,.slice Ab nb cb]] w (fun e w'=>∃u,Iv x m u∧Gv w (ZR b u) e w'):=by
 refine Calls.mono (R:=fun e w'=>∃u,Iv x m u∧Gv w (ZR w.heap.size u) e w') ?_ (fun e w2 h=>by obtain⟨u,h1,h2⟩:=h;exact⟨u,h1,Gv.imp (ZR.imp hb) _ _ h2⟩)
 have Lx:ln x≤1073741824:=Nat.le_trans hx.ln la
 have Lm:ln m≤1073741824:=Nat.le_trans hm.ln lb
 refine sx_enter Tryz.func72 rfl (n:=50) rfl (bq rfl) (args:= [.agg #[.bool sa,.slice Aa na ca],.agg #[.bool sb,.slice Ab nb cb]]) (cw_keep [(0,.agg #[.bool sa,.slice Aa na ca]),(1,.agg #[.bool sb,.slice Ab nb cb])] ⟨rfl,rfl,trivial⟩ (sr (bx [.bool sa,.slice Aa na ca] (Ext.refl w) rfl rfl rfl fun g1 v2 hb4 ge5 e3 hw1=>(bxq [.bool sb,.slice Ab nb cb] hw1 hb4.lt rfl rfl rfl fun g6 v7 hb9 ge10 q11 e8 hw2=>(alq [F0,S0] hw2 hb9.lt (fun _=>by kernel_rfl) rfl fun g12 v13 hb15 ge16 q17 e14 hw3=>(ne_ (cw_seq ?_)))))))
 refine cw_draw mix 3 [] [Is (.agg #[.bool sb,.slice Ab nb cb]),ZR w.heap.size (1),Is (.int .i64 (scmp m 1))] [[],[],[0,1]] [[],[],[0,1],[0,1,2]] rfl
  (obs_cons rfl rfl (hob rfl rfl ?_) (obs_cons rfl rfl (hob rfl rfl ?_) (obs_cons rfl rfl (hob rfl rfl ?_) obs_nil))) ?_
 · 
  exact fun _ e20=>deps_nil (lo aggInt (hb9.ext (e14.trans e20)) [.bool sb,.slice Ab nb cb] rfl rfl rfl (pi_done rfl (Ext.refl _) rfl))
 · 
  intro v21 e22
  have hw4:=hw3.trans e22
  refine deps_nil (cl (vs:= []) hw4 (g_ref6_one (w:=v21) hw4.size) rfl (by kernel_rfl) fun xr25 v23 r25 e24 hw5=>?_)
  obtain⟨s26,A26,n26,c26,rfl,z26⟩:=r25
  exact pi_done rfl e24 ⟨_,_,_,_,rfl,z26⟩
 · 
  intro v27 e28
  have hw4:=hw3.trans e28
  refine dk rfl rfl (deps_cons rfl rfl fun x34 y35 h36 e37 f38=>?_)
  obtain⟨s39,A39,n39,c39,rfl,z39⟩:=h36
  have z39:=z39.ext f38
  refine deps_nil (cl (vs:= [.agg #[.bool sb,.slice Ab nb cb],.agg #[.bool s39,.slice A39 n39 c39]]) hw4 (g_ref5_Cmp (hm.ext hw4) (lx_ lb rfl) z39.zi (z39.le (Nat.le_trans (show ln 1≤1 by decide+kernel) (by decide)))) rfl (by kernel_rfl) fun xr42 v40 r42 e41 hw5=>?_)
  obtain rfl:=r42
  exact pi_done rfl e41 rfl
 · 
  intro v43 e44
  have hw4:=hw3.trans e44
  refine dk rfl rfl (deps_cons rfl rfl fun x50 y51 h52 e53 f54=>?_)
  obtain⟨s55,A55,n55,c55,rfl,z55⟩:=h52
  have z55:=z55.ext f54
  refine dk rfl rfl (deps_nil (mv 1 rfl (wl_nil (eo_np (eo_then (cw_seq (cw_seq ?_)))))))
  by_cases hm1:m=1
  · 
   refine cw_region (mv 1 rfl (wl_cmp rfl rfl rfl true (scmp_eqz_t hm1) (by decide) (ne_ (cw_true rfl (sr (pu (v:= .agg #[F0,S0]) rfl (by kernel_rfl) ?_))))))
   have hb62:=(hb15.ext e44)
   refine so aggInt hb62 [F0,S0] hw4 ge16 rfl rfl rfl rfl fun v61 hb63 u64 hw5=>(ne_ (cw_ret (eo_thenR (eo_ret [.agg #[F0,S0]] rfl ⟨⟨_,rfl,load_agg aggInt hb63 [F0,S0] rfl (bq rfl) rfl⟩,trivial⟩ ?_))))
   exact⟨_,inv6_m1 hm1,_,rfl,⟨_,_,_,_,rfl,((Zr.zero (w:=v43) (base:=w.heap.size)).updT hb62 u64)⟩,hw5⟩
  · 
   refine cw_region (mv 1 rfl (wl_cmp rfl rfl rfl false (scmp_eqz_f hm1) (by decide) (ne_ (cw_false rfl (cw_skip (eo_then (cw_seq ?_)))))))
   refine cw_draw mix 3 [] [Is (.agg #[.bool sa,.slice Aa na ca]),ZR w.heap.size (1),Is (.int .i64 (scmp x 1))] [[],[],[0,1]] [[],[],[0,1],[0,1,2]] rfl
    (obs_cons rfl rfl (hob rfl rfl ?_) (obs_cons rfl rfl (hob rfl rfl ?_) (obs_cons rfl rfl (hob rfl rfl ?_) obs_nil))) ?_
   · 
    exact fun _ e68=>deps_nil (lo aggInt (hb4.ext (e8.trans (e14.trans (e44.trans e68)))) [.bool sa,.slice Aa na ca] rfl rfl rfl (pi_done rfl (Ext.refl _) rfl))
   · 
    intro v69 e70
    have hw5:=hw4.trans e70
    refine deps_nil (cl (vs:= []) hw5 (g_ref6_one (w:=v69) hw5.size) rfl (by kernel_rfl) fun xr73 v71 r73 e72 hw6=>?_)
    obtain⟨s74,A74,n74,c74,rfl,z74⟩:=r73
    exact pi_done rfl e72 ⟨_,_,_,_,rfl,z74⟩
   · 
    intro v75 e76
    have hw5:=hw4.trans e76
    refine dk rfl rfl (deps_cons rfl rfl fun x82 y83 h84 e85 f86=>?_)
    obtain⟨s87,A87,n87,c87,rfl,z87⟩:=h84
    have z87:=z87.ext f86
    refine deps_nil (cl (vs:= [.agg #[.bool sa,.slice Aa na ca],.agg #[.bool s87,.slice A87 n87 c87]]) hw5 (g_ref5_Cmp (hx.ext hw5) (lx_ la rfl) z87.zi (z87.le (Nat.le_trans (show ln 1≤1 by decide+kernel) (by decide)))) rfl (by kernel_rfl) fun xr90 v88 r90 e89 hw6=>?_)
    obtain rfl:=r90
    exact pi_done rfl e89 rfl
   · 
    intro v91 e92
    have hw5:=hw4.trans e92
    refine dk rfl rfl (deps_cons rfl rfl fun x98 y99 h100 e101 f102=>?_)
    obtain⟨s103,A103,n103,c103,rfl,z103⟩:=h100
    have z103:=z103.ext f102
    refine dk rfl rfl (deps_nil (mv 1 rfl (wl_nil (eo_np (eo_then (cw_seq (cw_seq ?_)))))))
    by_cases hx1:x=1
    · 
     refine cw_region (mv 1 rfl (wl_cmp rfl rfl rfl true (scmp_eqz_t hx1) (by decide) (ne_ (cw_true rfl (sr (cl (vs:= []) hw5 (g_ref6_one (w:=v91) hw5.size) rfl (by kernel_rfl) fun xr111 v109 r111 e110 hw6=>?_))))))
     obtain⟨s112,A112,n112,c112,rfl,z112⟩:=r111
     have hb114:=(hb15.ext (e44.trans (e92.trans e110)))
     refine so aggInt hb114 [.bool s112,.slice A112 n112 c112] hw6 ge16 rfl rfl rfl rfl fun v113 hb115 u116 hw7=>(ne_ (cw_ret (eo_thenR (eo_ret [.agg #[.bool s112,.slice A112 n112 c112]] rfl ⟨⟨_,rfl,load_agg aggInt hb115 [.bool s112,.slice A112 n112 c112] rfl (bq rfl) rfl⟩,trivial⟩ ?_))))
     exact⟨_,inv6_x1 hx1 h0 hm1,_,rfl,⟨_,_,_,_,rfl,(z112.updT hb114 u116)⟩,hw7⟩
    · 
     have hx2:1<x:=inv_x2 h1 hx1 hm1 h3 h0
     refine cw_region (mv 1 rfl (wl_cmp rfl rfl rfl false (scmp_eqz_f hx1) (by decide) (ne_ (cw_false rfl (cw_skip (eo_then (sr (lo aggInt (hb9.ext (e14.trans (e44.trans e92))) [.bool sb,.slice Ab nb cb] rfl rfl rfl (lo aggInt (hb4.ext (e8.trans (e14.trans (e44.trans e92)))) [.bool sa,.slice Aa na ca] rfl rfl rfl ?_)))))))))
     have L118:ln (m%x)≤1073741824:=Nat.le_trans (ln_emod (show x≠0 by omega)) Lx
     refine cl (vs:= [.agg #[.bool sb,.slice Ab nb cb],.agg #[.bool sa,.slice Aa na ca]]) hw5 (k_ref5_Mod hw5.size (hm.ext hw5) (lx_ lb rfl) (hx.ext hw5) (lx_ la rfl) (show x≠0 by omega)) rfl (by kernel_rfl) fun xr121 v119 r121 e120 hw6=>?_
     obtain⟨_,_,rfl,⟨s123,A123,n123,c123,rfl,z123⟩,rfl⟩:=r121
     refine mv 1 rfl (pu (v:= .agg #[.bool s123,.slice A123 n123 c123]) rfl (by kernel_rfl) (pu (v:= .int .i64 0) rfl (by kernel_rfl) (alq [F0,S0] hw6 (hb15.ext (e44.trans (e92.trans e120))).lt (fun _=>by kernel_rfl) rfl fun g124 v125 hb127 ge128 q129 e126 hw7=>(so aggInt hb127 [.bool s123,.slice A123 n123 c123] hw7 ge128 rfl rfl rfl rfl fun v130 hb132 u133 hw8=>(mv 1 rfl (ne_ (sr (lo aggInt hb132 [.bool s123,.slice A123 n123 c123] rfl rfl rfl (lo aggInt ((hb4.ext (e8.trans (e14.trans (e44.trans (e92.trans (e120.trans e126)))))).updN u133 (by omega)) [.bool sa,.slice Aa na ca] rfl rfl rfl (wl_call rfl rfl (vs:= [.agg #[.bool s123,.slice A123 n123 c123],.agg #[.bool sa,.slice Aa na ca]]) (by kernel_rfl) (by decide) (ih _ _ _ _ _ _ _ _ _ _ _ _ (inv_lt hx2) hw8.size ((z123.ext e126).updT hb127 u133).zi (z123.le (lx_ L118 rfl)) (hx.ext hw8) (lx_ la rfl) (by omega) (Int.emod_nonneg _ (by omega)) (Int.emod_lt_of_pos _ (by omega)) (inv_gcd h3)) ?_))))))))))
     rintro _ v135 ⟨u138,p139,xr137,rfl,r137,e136⟩
     have L140:ln (u138)≤1073741824:=Nat.le_trans (ln_mono (y:=x) (by have:=p139.lo;have:=p139.hi;omega)) Lx
     refine ret_intro ?_
     have hw9:=hw8.trans e136
     obtain⟨s141,A141,n141,c141,rfl,z141⟩:=r137
     refine alq [F0,S0] hw9 (hb132.ext e136).lt (fun _=>by kernel_rfl) rfl fun g142 v143 hb145 ge146 q147 e144 hw10=>(so aggInt hb145 [.bool s141,.slice A141 n141 c141] hw10 ge146 rfl rfl rfl rfl fun v148 hb150 u151 hw11=>(ne_ (sr (lo aggInt ((((hb4.ext (e8.trans (e14.trans (e44.trans (e92.trans (e120.trans e126)))))).updN u133 (by omega)).ext (e136.trans e144)).updN u151 (by omega)) [.bool sa,.slice Aa na ca] rfl rfl rfl (lo aggInt hb150 [.bool s141,.slice A141 n141 c141] rfl rfl rfl ?_)))))
     have L153:ln (x-u138)≤1073741825:=Nat.le_trans (ln_sub Lx L140) (by decide)
     refine cl (vs:= [.agg #[.bool sa,.slice Aa na ca],.agg #[.bool s141,.slice A141 n141 c141]]) hw11 (g_ref5_Sub hw11.size (hx.ext hw11) (lx_ la rfl) ((z141.ext e144).updT hb145 u151).zi (z141.le (lx_ L140 rfl))) rfl (by kernel_rfl) fun xr156 v154 r156 e155 hw12=>?_
     obtain⟨s157,A157,n157,c157,rfl,z157⟩:=r156
     refine alq [F0,S0] hw12 (hb150.ext e155).lt (fun _=>by kernel_rfl) rfl fun g158 v159 hb161 ge162 q163 e160 hw13=>(so aggInt hb161 [.bool s157,.slice A157 n157 c157] hw13 ge162 rfl rfl rfl rfl fun v164 hb166 u167 hw14=>(ne_ (sr (lo aggInt ((((((hb9.ext (e14.trans (e44.trans (e92.trans (e120.trans e126))))).updN u133 (by omega)).ext (e136.trans e144)).updN u151 (by omega)).ext (e155.trans e160)).updN u167 (by omega)) [.bool sb,.slice Ab nb cb] rfl rfl rfl (lo aggInt hb166 [.bool s157,.slice A157 n157 c157] rfl rfl rfl ?_)))))
     have L169:ln (m*(x-u138))≤2147483649:=Nat.le_trans (ln_mul Lm L153) (by decide)
     refine cl (vs:= [.agg #[.bool sb,.slice Ab nb cb],.agg #[.bool s157,.slice A157 n157 c157]]) hw14 (g_ref5_Mul hw14.size (hm.ext hw14) (lx_ lb rfl) ((z157.ext e160).updT hb161 u167).zi (z157.le (lx_ L153 rfl))) rfl (by kernel_rfl) fun xr172 v170 r172 e171 hw15=>?_
     obtain⟨s173,A173,n173,c173,rfl,z173⟩:=r172
     refine alq [F0,S0] hw15 (hb166.ext e171).lt (fun _=>by kernel_rfl) rfl fun g174 v175 hb177 ge178 q179 e176 hw16=>(so aggInt hb177 [.bool s173,.slice A173 n173 c173] hw16 ge178 rfl rfl rfl rfl fun v180 hb182 u183 hw17=>(ne_ (cw_seq ?_)))
     have L186:ln ((m*(x-u138))+1)≤2147483650:=Nat.le_trans (ln_add L169 (show ln 1≤1 by decide+kernel)) (by decide)
     refine cw_draw mix 3 [] [Is (.agg #[.bool s173,.slice A173 n173 c173]),ZR w.heap.size (1),ZR w.heap.size ((m*(x-u138))+1)] [[],[],[0,1]] [[],[],[0,1],[0,1,2]] rfl
      (obs_cons rfl rfl (hob rfl rfl ?_) (obs_cons rfl rfl (hob rfl rfl ?_) (obs_cons rfl rfl (hob rfl rfl ?_) obs_nil))) ?_
     · 
      exact fun _ e189=>deps_nil (lo aggInt (hb182.ext e189) [.bool s173,.slice A173 n173 c173] rfl rfl rfl (pi_done rfl (Ext.refl _) rfl))
     · 
      intro v190 e191
      have hw18:=hw17.trans e191
      refine deps_nil (cl (vs:= []) hw18 (g_ref6_one (w:=v190) hw18.size) rfl (by kernel_rfl) fun xr194 v192 r194 e193 hw19=>?_)
      obtain⟨s195,A195,n195,c195,rfl,z195⟩:=r194
      exact pi_done rfl e193 ⟨_,_,_,_,rfl,z195⟩
     · 
      intro v196 e197
      have hw18:=hw17.trans e197
      refine dk rfl rfl (deps_cons rfl rfl fun x203 y204 h205 e206 f207=>?_)
      obtain⟨s208,A208,n208,c208,rfl,z208⟩:=h205
      have z208:=z208.ext f207
      refine deps_nil ?_
      have L209:ln ((m*(x-u138))+1)≤2147483650:=Nat.le_trans (ln_add L169 (show ln 1≤1 by decide+kernel)) (by decide)
      refine cl (vs:= [.agg #[.bool s173,.slice A173 n173 c173],.agg #[.bool s208,.slice A208 n208 c208]]) hw18 (g_ref5_Add hw18.size (((z173.ext e176).updT hb177 u183).ext e197).zi (z173.le (lx_ L169 rfl)) z208.zi (z208.le (Nat.le_trans (show ln 1≤1 by decide+kernel) (by decide)))) rfl (by kernel_rfl) fun xr212 v210 r212 e211 hw19=>?_
      obtain⟨s213,A213,n213,c213,rfl,z213⟩:=r212
      exact pi_done rfl e211 ⟨_,_,_,_,rfl,z213⟩
     · 
      intro v214 e215
      have hw18:=hw17.trans e215
      refine dk rfl rfl (deps_cons rfl rfl fun x221 y222 h223 e224 f225=>?_)
      obtain⟨s226,A226,n226,c226,rfl,z226⟩:=h223
      have z226:=z226.ext f225
      refine deps_cons rfl rfl fun x227 y228 h229 e230 f231=>?_
      obtain⟨s232,A232,n232,c232,rfl,z232⟩:=h229
      have z232:=z232.ext f231
      refine deps_nil ?_
      have hb234:=(hb182.ext e215)
      refine so aggInt hb234 [.bool s232,.slice A232 n232 c232] hw18 ge178 rfl rfl rfl rfl fun v233 hb235 u236 hw19=>(wl_nil (eo_np (eo_then (sr (lo aggInt hb235 [.bool s232,.slice A232 n232 c232] rfl rfl rfl (lo aggInt ((((((((((hb4.ext (e8.trans (e14.trans (e44.trans (e92.trans (e120.trans e126)))))).updN u133 (by omega)).ext (e136.trans e144)).updN u151 (by omega)).ext (e155.trans e160)).updN u167 (by omega)).ext (e171.trans e176)).updN u183 (by omega)).ext e215).updN u236 (by omega)) [.bool sa,.slice Aa na ca] rfl rfl rfl ?_))))))
      have L238:ln (((m*(x-u138))+1).tdiv x)≤2147483650:=Nat.le_trans (ln_tdiv _ _) L186
      refine cl (vs:= [.agg #[.bool s232,.slice A232 n232 c232],.agg #[.bool sa,.slice Aa na ca]]) hw19 (g_ref5_Exact_ok hw19.size (z232.updT hb234 u236).zi (z232.le (lx_ L186 rfl)) (hx.ext hw19) (lx_ la rfl) (show x≠0 by omega) (inv6_step hx2 (by omega) p139).1) rfl (by kernel_rfl) fun xr241 v239 r241 e240 hw20=>?_
      obtain⟨_,_,rfl,⟨s243,A243,n243,c243,rfl,z243⟩,rfl⟩:=r241
      refine mv 1 rfl (pu (v:= .agg #[.bool s243,.slice A243 n243 c243]) rfl (by kernel_rfl) (pu (v:= .int .i64 0) rfl (by kernel_rfl) (alq [F0,S0] hw20 (hb235.ext e240).lt (fun _=>by kernel_rfl) rfl fun g244 v245 hb247 ge248 q249 e246 hw21=>(so aggInt hb247 [.bool s243,.slice A243 n243 c243] hw21 ge248 rfl rfl rfl rfl fun v250 hb252 u253 hw22=>(mv 1 rfl (ne_ (sr (lo aggInt hb252 [.bool s243,.slice A243 n243 c243] rfl rfl rfl ?_))))))))
      have hb256:=((((((((((((hb15.ext (e44.trans (e92.trans (e120.trans e126)))).updN u133 (by omega)).ext (e136.trans e144)).updN u151 (by omega)).ext (e155.trans e160)).updN u167 (by omega)).ext (e171.trans e176)).updN u183 (by omega)).ext e215).updN u236 (by omega)).ext (e240.trans e246)).updN u253 (by omega))
      refine so aggInt hb256 [.bool s243,.slice A243 n243 c243] hw22 ge16 rfl rfl rfl rfl fun v255 hb257 u258 hw23=>(ne_ (cw_ret (eo_ret [.agg #[.bool s243,.slice A243 n243 c243]] rfl ⟨⟨_,rfl,load_agg aggInt hb257 [.bool s243,.slice A243 n243 c243] rfl (bq rfl) rfl⟩,trivial⟩ ?_)))
      exact⟨_,(inv6_step hx2 (by omega) p139).2,_,rfl,⟨_,_,_,_,rfl,(((z243.ext e246).updT hb247 u253).updT hb256 u258)⟩,hw23⟩
theorem invC_all:∀N,InvC N
 | 0=>fun _ _ _ _ _ _ _ _ _ _ _ _ h=>by omega
 | N+1=>fun w b sa Aa na ca x sb Ab nb cb m h hb hx la hm lb h0 h1 h2 h3=>g_ref6_inverse_step hb hx la hm lb h0 h1 h2 h3 (fun w b sa Aa na ca x' sb Ab nb cb m h'=>invC_all N w b sa Aa na ca x' sb Ab nb cb m (by omega))
theorem g_ref6_inverse {w:World}{sa:Bool}{Aa:Option Addr}{na ca:Nat}{x:Int}{sb:Bool}{Ab:Option Addr}{nb cb:Nat}{m:Int}{b:Nat}(hb:b≤w.heap.size) (hx:Zi w sa Aa na ca x) (la:na≤1073741824) (hm:Zi w sb Ab nb cb m) (lb:nb≤1073741824) (h0:0<m) (h1:0≤x) (h2:x<m) (h3:Int.gcd x m=1):
  Calls Tryz.prog 72 #[.agg #[.bool sa,.slice Aa na ca],.agg #[.bool sb,.slice Ab nb cb]] w (fun e w'=>∃u,Iv x m u∧Gv w (ZR b u) e w'):=
 invC_all _ w b sa Aa na ca x sb Ab nb cb m (Nat.lt_succ_self _) hb hx la hm lb h0 h1 h2 h3
set_option maxHeartbeats 4000000 in
theorem g_ref6_Lcm {w:World}{sa:Bool}{Aa:Option Addr}{na ca:Nat}{x:Int}{sb:Bool}{Ab:Option Addr}{nb cb:Nat}{y:Int}{b:Nat}(hb:b≤w.heap.size) (hx:Zi w sa Aa na ca x) (la:na≤1073741824) (hy:Zi w sb Ab nb cb y) (lb:nb≤1073741824):
    Calls Tryz.prog 37 #[.agg #[.bool sa,.slice Aa na ca],.agg #[.bool sb,.slice Ab nb cb]] w (Gv w (ZR b ((Int.lcm x y:Int)))):=by
 refine Calls.mono (R:=Gv w (ZR w.heap.size ((Int.lcm x y:Int)))) ?_ (Gv.imp (ZR.imp hb))
 have Lx:ln x≤1073741824:=Nat.le_trans hx.ln la
 have Ly:ln y≤1073741824:=Nat.le_trans hy.ln lb
 refine sx_enter Tryz.func37 rfl (n:=28) rfl (bq rfl) (args:= [.agg #[.bool sa,.slice Aa na ca],.agg #[.bool sb,.slice Ab nb cb]]) (cw_keep [(0,.agg #[.bool sa,.slice Aa na ca]),(1,.agg #[.bool sb,.slice Ab nb cb])] ⟨rfl,rfl,trivial⟩ (sr (bx [.bool sa,.slice Aa na ca] (Ext.refl w) rfl rfl rfl fun g1 v2 hb4 ge5 e3 hw1=>(bxq [.bool sb,.slice Ab nb cb] hw1 hb4.lt rfl rfl rfl fun g6 v7 hb9 ge10 q11 e8 hw2=>(alq [F0,S0] hw2 hb9.lt (fun _=>by kernel_rfl) rfl fun g12 v13 hb15 ge16 q17 e14 hw3=>(ne_ (sr (lo aggInt (hb4.ext (e8.trans e14)) [.bool sa,.slice Aa na ca] rfl rfl rfl (lo aggInt (hb9.ext e14) [.bool sb,.slice Ab nb cb] rfl rfl rfl ?_)))))))))
 have L18:ln ((Int.gcd x y:Int))≤1073741824:=Nat.le_trans (ln_gcd _ _) (Nat.max_le.2 ⟨Nat.le_trans Lx (by decide),Nat.le_trans Ly (by decide)⟩)
 refine cl (vs:= [.agg #[.bool sa,.slice Aa na ca],.agg #[.bool sb,.slice Ab nb cb]]) hw3 (g_ref6_Gcd hw3.size (hx.ext hw3) (lx_ la rfl) (hy.ext hw3) (lx_ lb rfl)) rfl (by kernel_rfl) fun xr21 v19 r21 e20 hw4=>?_
 obtain⟨s22,A22,n22,c22,rfl,z22⟩:=r21
 refine alq [F0,S0] hw4 (hb15.ext e20).lt (fun _=>by kernel_rfl) rfl fun g23 v24 hb26 ge27 q28 e25 hw5=>(so aggInt hb26 [.bool s22,.slice A22 n22 c22] hw5 ge27 rfl rfl rfl rfl fun v29 hb31 u32 hw6=>(ne_ (cw_seq (cw_seq ?_))))
 by_cases hg:(Int.gcd x y:Int)=0
 · 
  have hn22:n22=0:=by rw [(((z22.ext e25).updT hb26 u32)).len,hg];rfl
  have hl:(0:Int)=(Int.lcm x y:Int):=by unfold Int.lcm Nat.lcm;have h1:Nat.gcd x.natAbs y.natAbs=0:=(by exact_mod_cast hg);rw [h1];simp
  refine cw_region (pf g23 1 rfl (by kernel_rfl) (wl_load rfl rfl (load_cell cellWords hb31 rfl) (by decide) (pu (v:= .int .i64 ((n22:Nat):Int)) rfl (by kernel_rfl) (wl_cmp rfl rfl rfl true (eq_t (by omega)) (by decide) (ne_ (cw_true rfl (sr (pu (v:= .agg #[F0,S0]) rfl (by kernel_rfl) ?_))))))))
  have hb35:=((hb15.ext (e20.trans e25)).updN u32 (by omega))
  refine so aggInt hb35 [F0,S0] hw6 ge16 rfl rfl rfl rfl fun v34 hb36 u37 hw7=>(ne_ (cw_ret (eo_thenR (eo_ret [.agg #[F0,S0]] rfl ⟨⟨_,rfl,load_agg aggInt hb36 [F0,S0] rfl (bq rfl) rfl⟩,trivial⟩ ?_))))
  exact⟨_,rfl,⟨_,_,_,_,rfl,(((Zr.zero (w:=v29) (base:=w.heap.size)).updT hb35 u37)).cast (hl)⟩,hw7⟩
 · 
  have hn22:n22≠0:=fun e=>hg (ln_eq_zero (by rw [←(((z22.ext e25).updT hb26 u32)).len,e]))
  refine cw_region (pf g23 1 rfl (by kernel_rfl) (wl_load rfl rfl (load_cell cellWords hb31 rfl) (by decide) (pu (v:= .int .i64 ((n22:Nat):Int)) rfl (by kernel_rfl) (wl_cmp rfl rfl rfl false (eq_f (by omega)) (by decide) (ne_ (cw_false rfl (cw_skip (eo_then (sr (lo aggInt ((hb4.ext (e8.trans (e14.trans (e20.trans e25)))).updN u32 (by omega)) [.bool sa,.slice Aa na ca] rfl rfl rfl (lo aggInt ((hb9.ext (e14.trans (e20.trans e25))).updN u32 (by omega)) [.bool sb,.slice Ab nb cb] rfl rfl rfl ?_)))))))))))
  have L39:ln (x*y)≤2147483648:=Nat.le_trans (ln_mul Lx Ly) (by decide)
  refine cl (vs:= [.agg #[.bool sa,.slice Aa na ca],.agg #[.bool sb,.slice Ab nb cb]]) hw6 (g_ref5_Mul hw6.size (hx.ext hw6) (lx_ la rfl) (hy.ext hw6) (lx_ lb rfl)) rfl (by kernel_rfl) fun xr42 v40 r42 e41 hw7=>?_
  obtain⟨s43,A43,n43,c43,rfl,z43⟩:=r42
  refine alq [F0,S0] hw7 (hb31.ext e41).lt (fun _=>by kernel_rfl) rfl fun g44 v45 hb47 ge48 q49 e46 hw8=>(so aggInt hb47 [.bool s43,.slice A43 n43 c43] hw8 ge48 rfl rfl rfl rfl fun v50 hb52 u53 hw9=>(ne_ (sr (lo aggInt hb52 [.bool s43,.slice A43 n43 c43] rfl rfl rfl (lo aggInt ((hb31.ext (e41.trans e46)).updN u53 (by omega)) [.bool s22,.slice A22 n22 c22] rfl rfl rfl ?_)))))
  have L55:ln ((x*y).tdiv (Int.gcd x y:Int))≤2147483648:=Nat.le_trans (ln_tdiv _ _) L39
  refine cl (vs:= [.agg #[.bool s43,.slice A43 n43 c43],.agg #[.bool s22,.slice A22 n22 c22]]) hw9 (g_ref5_Exact_ok hw9.size ((z43.ext e46).updT hb47 u53).zi (z43.le (lx_ L39 rfl)) ((((z22.ext e25).updT hb26 u32).ext (e41.trans e46)).updT hb47 u53).zi (z22.le (lx_ L18 rfl)) hg (gcd_mul0 x y)) rfl (by kernel_rfl) fun xr58 v56 r58 e57 hw10=>?_
  obtain⟨_,_,rfl,⟨s60,A60,n60,c60,rfl,z60⟩,rfl⟩:=r58
  refine mv 1 rfl (pu (v:= .agg #[.bool s60,.slice A60 n60 c60]) rfl (by kernel_rfl) (pu (v:= .int .i64 0) rfl (by kernel_rfl) (alq [F0,S0] hw10 (hb52.ext e57).lt (fun _=>by kernel_rfl) rfl fun g61 v62 hb64 ge65 q66 e63 hw11=>(so aggInt hb64 [.bool s60,.slice A60 n60 c60] hw11 ge65 rfl rfl rfl rfl fun v67 hb69 u70 hw12=>(mv 1 rfl (ne_ (sr (lo aggInt hb69 [.bool s60,.slice A60 n60 c60] rfl rfl rfl ?_))))))))
  have L72:ln ((Int.natAbs ((x*y).tdiv (Int.gcd x y:Int)):Int))≤2147483648:=(by rw [ln_abs];exact L55)
  refine cl (vs:= [.agg #[.bool s60,.slice A60 n60 c60]]) hw12 (g_ref5_Abs hw12.size ((z60.ext e63).updT hb64 u70).zi (z60.le (lx_ L55 rfl))) rfl (by kernel_rfl) fun xr75 v73 r75 e74 hw13=>?_
  obtain⟨s76,A76,n76,c76,rfl,z76⟩:=r75
  have hb78:=(((((((hb15.ext (e20.trans e25)).updN u32 (by omega)).ext (e41.trans e46)).updN u53 (by omega)).ext (e57.trans e63)).updN u70 (by omega)).ext e74)
  refine so aggInt hb78 [.bool s76,.slice A76 n76 c76] hw13 ge16 rfl rfl rfl rfl fun v77 hb79 u80 hw14=>(ne_ (cw_ret (eo_ret [.agg #[.bool s76,.slice A76 n76 c76]] rfl ⟨⟨_,rfl,load_agg aggInt hb79 [.bool s76,.slice A76 n76 c76] rfl (bq rfl) rfl⟩,trivial⟩ ?_)))
  exact⟨_,rfl,⟨_,_,_,_,rfl,((z76.updT hb78 u80)).cast (lcm6_of hg)⟩,hw14⟩
set_option maxHeartbeats 4000000 in
theorem g_ref6_Ext {w:World}{sa:Bool}{Aa:Option Addr}{na ca:Nat}{x:Int}{sb:Bool}{Ab:Option Addr}{nb cb:Nat}{y:Int}{b:Nat}(hb:b≤w.heap.size) (hx:Zi w sa Aa na ca x) (la:na≤1073741824) (hy:Zi w sb Ab nb cb y) (lb:nb≤1073741824):
    Calls Tryz.prog 38 #[.agg #[.bool sa,.slice Aa na ca],.agg #[.bool sb,.slice Ab nb cb]] w (fun e w'=>∃u v,Bez x y u v∧Gv w (T3 (ZR b (Int.gcd x y:Int)) (ZR b u) (ZR b v)) e w'):=by
 refine Calls.mono (R:=fun e w'=>∃u v,Bez x y u v∧Gv w (T3 (ZR w.heap.size (Int.gcd x y:Int)) (ZR w.heap.size u) (ZR w.heap.size v)) e w') ?_ (fun e w2 h=>by obtain⟨u,v,h1,h2⟩:=h;exact⟨u,v,h1,Gv.imp (T3.imp (ZR.imp hb) (ZR.imp hb) (ZR.imp hb)) _ _ h2⟩)
 have Lx:ln x≤1073741824:=Nat.le_trans hx.ln la
 have Ly:ln y≤1073741824:=Nat.le_trans hy.ln lb
 refine sx_enter Tryz.func38 rfl (n:=73) rfl (bq rfl) (args:= [.agg #[.bool sa,.slice Aa na ca],.agg #[.bool sb,.slice Ab nb cb]]) (cw_keep [(0,.agg #[.bool sa,.slice Aa na ca]),(1,.agg #[.bool sb,.slice Ab nb cb])] ⟨rfl,rfl,trivial⟩ (sr (bx [.bool sa,.slice Aa na ca] (Ext.refl w) rfl rfl rfl fun g1 v2 hb4 ge5 e3 hw1=>(bxq [.bool sb,.slice Ab nb cb] hw1 hb4.lt rfl rfl rfl fun g6 v7 hb9 ge10 q11 e8 hw2=>(alq [F0,S0] hw2 hb9.lt (fun _=>by kernel_rfl) rfl fun g12 v13 hb15 ge16 q17 e14 hw3=>(alq [F0,S0] hw3 hb15.lt (fun _=>by kernel_rfl) rfl fun g18 v19 hb21 ge22 q23 e20 hw4=>(alq [F0,S0] hw4 hb21.lt (fun _=>by kernel_rfl) rfl fun g24 v25 hb27 ge28 q29 e26 hw5=>(ne_ (sr (lo aggInt (hb4.ext (e8.trans (e14.trans (e20.trans e26)))) [.bool sa,.slice Aa na ca] rfl rfl rfl (lo aggInt (hb9.ext (e14.trans (e20.trans e26))) [.bool sb,.slice Ab nb cb] rfl rfl rfl ?_)))))))))))
 have L30:ln ((Int.gcd x y:Int))≤1073741824:=Nat.le_trans (ln_gcd _ _) (Nat.max_le.2 ⟨Nat.le_trans Lx (by decide),Nat.le_trans Ly (by decide)⟩)
 refine cl (vs:= [.agg #[.bool sa,.slice Aa na ca],.agg #[.bool sb,.slice Ab nb cb]]) hw5 (g_ref6_Gcd hw5.size (hx.ext hw5) (lx_ la rfl) (hy.ext hw5) (lx_ lb rfl)) rfl (by kernel_rfl) fun xr33 v31 r33 e32 hw6=>?_
 obtain⟨s34,A34,n34,c34,rfl,z34⟩:=r33
 have hb36:=(hb15.ext (e20.trans (e26.trans e32)))
 refine so aggInt hb36 [.bool s34,.slice A34 n34 c34] hw6 ge16 rfl rfl rfl rfl fun v35 hb37 u38 hw7=>(ne_ (sr (lo aggInt ((hb4.ext (e8.trans (e14.trans (e20.trans (e26.trans e32))))).updN u38 (by omega)) [.bool sa,.slice Aa na ca] rfl rfl rfl (cl (vs:= [.agg #[.bool sa,.slice Aa na ca]]) hw7 (g_ref5_Sign (hx.ext hw7) (lx_ la rfl)) rfl (by kernel_rfl) fun xr42 v40 r42 e41 hw8=>?_))))
 obtain rfl:=r42
 refine mv 1 rfl (ne_ (cw_seq (cw_seq ?_)))
 by_cases hg:(Int.gcd x y:Int)=0
 · 
  have hn34:n34=0:=by rw [(((z34.updT hb36 u38).ext e41)).len,hg];rfl
  refine cw_region (pf g12 1 rfl (by kernel_rfl) (wl_load rfl rfl (load_cell cellWords (hb37.ext e41) rfl) (by decide) (pu (v:= .int .i64 ((n34:Nat):Int)) rfl (by kernel_rfl) (wl_cmp rfl rfl rfl true (eq_t (by omega)) (by decide) (ne_ (cw_true rfl (sr (pu (v:= .agg #[F0,S0]) rfl (by kernel_rfl) (pu (v:= .agg #[F0,S0]) rfl (by kernel_rfl) (pu (v:= .agg #[F0,S0]) rfl (by kernel_rfl) ?_))))))))))
  have hb44:=(hb37.ext e41)
  refine so aggInt hb44 [F0,S0] hw8 ge16 rfl rfl rfl rfl fun v43 hb45 u46 hw9=>?_
  have hb49:=((((hb21.ext (e26.trans e32)).updN u38 (by omega)).ext e41).updN u46 (by omega))
  refine so aggInt hb49 [F0,S0] hw9 ge22 rfl rfl rfl rfl fun v48 hb50 u51 hw10=>?_
  have hb54:=(((((hb27.ext e32).updN u38 (by omega)).ext e41).updN u46 (by omega)).updN u51 (by omega))
  refine so aggInt hb54 [F0,S0] hw10 ge28 rfl rfl rfl rfl fun v53 hb55 u56 hw11=>(ne_ (cw_ret (eo_thenR (eo_ret [.agg #[F0,S0],.agg #[F0,S0],.agg #[F0,S0]] rfl ⟨⟨_,rfl,load_agg aggInt ((hb45.updN u51 (by omega)).updN u56 (by omega)) [F0,S0] rfl (bq rfl) rfl⟩,⟨_,rfl,load_agg aggInt (hb50.updN u56 (by omega)) [F0,S0] rfl (bq rfl) rfl⟩,⟨_,rfl,load_agg aggInt hb55 [F0,S0] rfl (bq rfl) rfl⟩,trivial⟩ ?_))))
  exact⟨_,_,(bez_00 hg),_,rfl,⟨_,_,_,rfl,⟨_,_,_,_,rfl,(((((Zr.zero (w:=v40) (base:=w.heap.size)).updT hb44 u46).updT hb49 u51).updT hb54 u56)).cast hg.symm⟩,⟨_,_,_,_,rfl,((((Zr.zero (w:=v40) (base:=w.heap.size)).updT hb44 u46).updT hb49 u51).updT hb54 u56)⟩,⟨_,_,_,_,rfl,((((Zr.zero (w:=v40) (base:=w.heap.size)).updT hb44 u46).updT hb49 u51).updT hb54 u56)⟩⟩,hw11⟩
 · 
  have hn34:n34≠0:=fun e=>hg (ln_eq_zero (by rw [←(((z34.updT hb36 u38).ext e41)).len,e]))
  refine cw_region (pf g12 1 rfl (by kernel_rfl) (wl_load rfl rfl (load_cell cellWords (hb37.ext e41) rfl) (by decide) (pu (v:= .int .i64 ((n34:Nat):Int)) rfl (by kernel_rfl) (wl_cmp rfl rfl rfl false (eq_f (by omega)) (by decide) (ne_ (cw_false rfl (cw_skip (eo_then (cw_seq (cw_seq ?_))))))))))
  by_cases h0:y=0
  · 
   have hx0:x≠0:=fun e=>hg (by rw [e,h0];rfl)
   by_cases hxs:x<0
   · 
    refine cw_region (lo aggInt (((hb9.ext (e14.trans (e20.trans (e26.trans e32)))).updN u38 (by omega)).ext e41) [.bool sb,.slice Ab nb cb] rfl rfl rfl (cl (vs:= [.agg #[.bool sb,.slice Ab nb cb]]) hw8 (g_ref5_Sign (hy.ext hw8) (lx_ lb rfl)) rfl (by kernel_rfl) fun xr60 v58 r60 e59 hw9=>?_))
    obtain rfl:=r60
    refine wl_cmp rfl rfl rfl true (scmp_eq_t h0) (by decide) (ne_ (cw_true rfl (sr (lo aggInt (hb37.ext (e41.trans e59)) [.bool s34,.slice A34 n34 c34] rfl rfl rfl (mv 1 rfl (wl_cmp rfl rfl rfl true (scmp_lt_t hxs) (by decide) (wl_bslice rfl rfl (by decide) (k:=1) (e:=38) [.int .u64 1] (fun _=>by kernel_rfl) fun g61 v62 nb63=>?_)))))))
    have o64:=O1.mk_ (x:=1) (b:=w.heap.size) nb63 hw9.size
    have e65:=nb63.ext
    have hw10:=hw9.trans e65
    have o67:=own1_wd o64 (by decide:1≤18446744073709551615) (by decide:1≠0)
    have j66:=len1 (by decide:1≤18446744073709551615) (by decide:1≠0)
    refine pu (v:= .agg #[.bool true,.slice (some ⟨g61,0,none⟩) 1 1]) rfl (by kernel_rfl) (pu (v:= .agg #[F0,S0]) rfl (by kernel_rfl) ?_)
    have hb69:=(hb37.ext (e41.trans (e59.trans e65)))
    refine so aggInt hb69 [.bool s34,.slice A34 n34 c34] hw10 ge16 rfl rfl rfl rfl fun v68 hb70 u71 hw11=>?_
    have hb74:=((((hb21.ext (e26.trans e32)).updN u38 (by omega)).ext (e41.trans (e59.trans e65))).updN u71 (by omega))
    refine so aggInt hb74 [.bool true,.slice (some ⟨g61,0,none⟩) 1 1] hw11 ge22 rfl rfl rfl rfl fun v73 hb75 u76 hw12=>?_
    have hb79:=(((((hb27.ext e32).updN u38 (by omega)).ext (e41.trans (e59.trans e65))).updN u71 (by omega)).updN u76 (by omega))
    refine so aggInt hb79 [F0,S0] hw12 ge28 rfl rfl rfl rfl fun v78 hb80 u81 hw13=>(ne_ (cw_ret (eo_thenR (eo_ret [.agg #[.bool s34,.slice A34 n34 c34],.agg #[.bool true,.slice (some ⟨g61,0,none⟩) 1 1],.agg #[F0,S0]] rfl ⟨⟨_,rfl,load_agg aggInt ((hb70.updN u76 (by omega)).updN u81 (by omega)) [.bool s34,.slice A34 n34 c34] rfl (bq rfl) rfl⟩,⟨_,rfl,load_agg aggInt (hb75.updN u81 (by omega)) [.bool true,.slice (some ⟨g61,0,none⟩) 1 1] rfl (bq rfl) rfl⟩,⟨_,rfl,load_agg aggInt hb80 [F0,S0] rfl (bq rfl) rfl⟩,trivial⟩ ?_))))
    exact⟨_,_,(bez_n h0 hxs),_,rfl,⟨_,_,_,rfl,⟨_,_,_,_,rfl,((((((z34.updT hb36 u38).ext (e41.trans (e59.trans e65))).updT hb69 u71).updT hb74 u76).updT hb79 u81)).cast rfl⟩,⟨_,_,_,_,rfl,((((Zr_neg (by decide:1≠0) j66 o67).updT hb69 u71).updT hb74 u76).updT hb79 u81)⟩,⟨_,_,_,_,rfl,((((Zr.zero (w:=v62) (base:=w.heap.size)).updT hb69 u71).updT hb74 u76).updT hb79 u81)⟩⟩,hw13⟩
   · 
    refine cw_region (lo aggInt (((hb9.ext (e14.trans (e20.trans (e26.trans e32)))).updN u38 (by omega)).ext e41) [.bool sb,.slice Ab nb cb] rfl rfl rfl (cl (vs:= [.agg #[.bool sb,.slice Ab nb cb]]) hw8 (g_ref5_Sign (hy.ext hw8) (lx_ lb rfl)) rfl (by kernel_rfl) fun xr85 v83 r85 e84 hw9=>?_))
    obtain rfl:=r85
    refine wl_cmp rfl rfl rfl true (scmp_eq_t h0) (by decide) (ne_ (cw_true rfl (sr (lo aggInt (hb37.ext (e41.trans e84)) [.bool s34,.slice A34 n34 c34] rfl rfl rfl (mv 1 rfl (wl_cmp rfl rfl rfl false (scmp_lt_f (by omega)) (by decide) (wl_bslice rfl rfl (by decide) (k:=1) (e:=38) [.int .u64 1] (fun _=>by kernel_rfl) fun g86 v87 nb88=>?_)))))))
    have o89:=O1.mk_ (x:=1) (b:=w.heap.size) nb88 hw9.size
    have e90:=nb88.ext
    have hw10:=hw9.trans e90
    have o92:=own1_wd o89 (by decide:1≤18446744073709551615) (by decide:1≠0)
    have j91:=len1 (by decide:1≤18446744073709551615) (by decide:1≠0)
    refine pu (v:= .agg #[F0,.slice (some ⟨g86,0,none⟩) 1 1]) rfl (by kernel_rfl) (pu (v:= .agg #[F0,S0]) rfl (by kernel_rfl) ?_)
    have hb94:=(hb37.ext (e41.trans (e84.trans e90)))
    refine so aggInt hb94 [.bool s34,.slice A34 n34 c34] hw10 ge16 rfl rfl rfl rfl fun v93 hb95 u96 hw11=>?_
    have hb99:=((((hb21.ext (e26.trans e32)).updN u38 (by omega)).ext (e41.trans (e84.trans e90))).updN u96 (by omega))
    refine so aggInt hb99 [F0,.slice (some ⟨g86,0,none⟩) 1 1] hw11 ge22 rfl rfl rfl rfl fun v98 hb100 u101 hw12=>?_
    have hb104:=(((((hb27.ext e32).updN u38 (by omega)).ext (e41.trans (e84.trans e90))).updN u96 (by omega)).updN u101 (by omega))
    refine so aggInt hb104 [F0,S0] hw12 ge28 rfl rfl rfl rfl fun v103 hb105 u106 hw13=>(ne_ (cw_ret (eo_thenR (eo_ret [.agg #[.bool s34,.slice A34 n34 c34],.agg #[F0,.slice (some ⟨g86,0,none⟩) 1 1],.agg #[F0,S0]] rfl ⟨⟨_,rfl,load_agg aggInt ((hb95.updN u101 (by omega)).updN u106 (by omega)) [.bool s34,.slice A34 n34 c34] rfl (bq rfl) rfl⟩,⟨_,rfl,load_agg aggInt (hb100.updN u106 (by omega)) [F0,.slice (some ⟨g86,0,none⟩) 1 1] rfl (bq rfl) rfl⟩,⟨_,rfl,load_agg aggInt hb105 [F0,S0] rfl (bq rfl) rfl⟩,trivial⟩ ?_))))
    exact⟨_,_,(bez_p h0 (by omega)),_,rfl,⟨_,_,_,rfl,⟨_,_,_,_,rfl,((((((z34.updT hb36 u38).ext (e41.trans (e84.trans e90))).updT hb94 u96).updT hb99 u101).updT hb104 u106)).cast rfl⟩,⟨_,_,_,_,rfl,((((Zr_nat j91 o92).updT hb94 u96).updT hb99 u101).updT hb104 u106)⟩,⟨_,_,_,_,rfl,((((Zr.zero (w:=v87) (base:=w.heap.size)).updT hb94 u96).updT hb99 u101).updT hb104 u106)⟩⟩,hw13⟩
  · 
   have HE:=ext6_pre x h0
   refine cw_region (lo aggInt (((hb9.ext (e14.trans (e20.trans (e26.trans e32)))).updN u38 (by omega)).ext e41) [.bool sb,.slice Ab nb cb] rfl rfl rfl (cl (vs:= [.agg #[.bool sb,.slice Ab nb cb]]) hw8 (g_ref5_Sign (hy.ext hw8) (lx_ lb rfl)) rfl (by kernel_rfl) fun xr110 v108 r110 e109 hw9=>?_))
   obtain rfl:=r110
   refine wl_cmp rfl rfl rfl false (scmp_eq_f h0) (by decide) (ne_ (cw_false rfl (cw_skip (eo_then (sr (lo aggInt (((hb4.ext (e8.trans (e14.trans (e20.trans (e26.trans e32))))).updN u38 (by omega)).ext (e41.trans e109)) [.bool sa,.slice Aa na ca] rfl rfl rfl (lo aggInt (hb37.ext (e41.trans e109)) [.bool s34,.slice A34 n34 c34] rfl rfl rfl ?_)))))))
   have L111:ln (x.tdiv (Int.gcd x y:Int))≤1073741824:=Nat.le_trans (ln_tdiv _ _) Lx
   refine cl (vs:= [.agg #[.bool sa,.slice Aa na ca],.agg #[.bool s34,.slice A34 n34 c34]]) hw9 (g_ref5_Exact_ok hw9.size (hx.ext hw9) (lx_ la rfl) ((z34.updT hb36 u38).ext (e41.trans e109)).zi (z34.le (lx_ L30 rfl)) hg (gcd_mod0 x y)) rfl (by kernel_rfl) fun xr114 v112 r114 e113 hw10=>?_
   obtain⟨_,_,rfl,⟨s116,A116,n116,c116,rfl,z116⟩,rfl⟩:=r114
   refine mv 1 rfl (pu (v:= .agg #[.bool s116,.slice A116 n116 c116]) rfl (by kernel_rfl) (pu (v:= .int .i64 0) rfl (by kernel_rfl) (alq [F0,S0] hw10 (((hb27.ext e32).updN u38 (by omega)).ext (e41.trans (e109.trans e113))).lt (fun _=>by kernel_rfl) rfl fun g117 v118 hb120 ge121 q122 e119 hw11=>(so aggInt hb120 [.bool s116,.slice A116 n116 c116] hw11 ge121 rfl rfl rfl rfl fun v123 hb125 u126 hw12=>(mv 1 rfl (ne_ (sr (lo aggInt ((((hb9.ext (e14.trans (e20.trans (e26.trans e32)))).updN u38 (by omega)).ext (e41.trans (e109.trans (e113.trans e119)))).updN u126 (by omega)) [.bool sb,.slice Ab nb cb] rfl rfl rfl (lo aggInt ((hb37.ext (e41.trans (e109.trans (e113.trans e119)))).updN u126 (by omega)) [.bool s34,.slice A34 n34 c34] rfl rfl rfl ?_)))))))))
   have L128:ln (y.tdiv (Int.gcd x y:Int))≤1073741824:=Nat.le_trans (ln_tdiv _ _) Ly
   refine cl (vs:= [.agg #[.bool sb,.slice Ab nb cb],.agg #[.bool s34,.slice A34 n34 c34]]) hw12 (g_ref5_Exact_ok hw12.size (hy.ext hw12) (lx_ lb rfl) (((z34.updT hb36 u38).ext (e41.trans (e109.trans (e113.trans e119)))).updT hb120 u126).zi (z34.le (lx_ L30 rfl)) hg (gcd_mod0r x y)) rfl (by kernel_rfl) fun xr131 v129 r131 e130 hw13=>?_
   obtain⟨_,_,rfl,⟨s133,A133,n133,c133,rfl,z133⟩,rfl⟩:=r131
   refine mv 1 rfl (pu (v:= .agg #[.bool s133,.slice A133 n133 c133]) rfl (by kernel_rfl) (pu (v:= .int .i64 0) rfl (by kernel_rfl) (alq [F0,S0] hw13 (hb125.ext e130).lt (fun _=>by kernel_rfl) rfl fun g134 v135 hb137 ge138 q139 e136 hw14=>(so aggInt hb137 [.bool s133,.slice A133 n133 c133] hw14 ge138 rfl rfl rfl rfl fun v140 hb142 u143 hw15=>(mv 1 rfl (ne_ (sr (lo aggInt hb142 [.bool s133,.slice A133 n133 c133] rfl rfl rfl ?_))))))))
   have L145:ln ((Int.natAbs (y.tdiv (Int.gcd x y:Int)):Int))≤1073741824:=(by rw [ln_abs];exact L128)
   refine cl (vs:= [.agg #[.bool s133,.slice A133 n133 c133]]) hw15 (g_ref5_Abs hw15.size ((z133.ext e136).updT hb137 u143).zi (z133.le (lx_ L128 rfl))) rfl (by kernel_rfl) fun xr148 v146 r148 e147 hw16=>?_
   obtain⟨s149,A149,n149,c149,rfl,z149⟩:=r148
   refine alq [F0,S0] hw16 (hb142.ext e147).lt (fun _=>by kernel_rfl) rfl fun g150 v151 hb153 ge154 q155 e152 hw17=>(so aggInt hb153 [.bool s149,.slice A149 n149 c149] hw17 ge154 rfl rfl rfl rfl fun v156 hb158 u159 hw18=>(ne_ (sr (lo aggInt ((((hb125.ext (e130.trans e136)).updN u143 (by omega)).ext (e147.trans e152)).updN u159 (by omega)) [.bool s116,.slice A116 n116 c116] rfl rfl rfl (lo aggInt hb158 [.bool s149,.slice A149 n149 c149] rfl rfl rfl ?_)))))
   have L161:ln ((x.tdiv (Int.gcd x y:Int))%(Int.natAbs (y.tdiv (Int.gcd x y:Int)):Int))≤1073741824:=Nat.le_trans (ln_emod (by have:=HE.2.2.1;omega)) L145
   refine cl (vs:= [.agg #[.bool s116,.slice A116 n116 c116],.agg #[.bool s149,.slice A149 n149 c149]]) hw18 (k_ref5_Mod hw18.size ((((((z116.ext e119).updT hb120 u126).ext (e130.trans e136)).updT hb137 u143).ext (e147.trans e152)).updT hb153 u159).zi (z116.le (lx_ L111 rfl)) ((z149.ext e152).updT hb153 u159).zi (z149.le (lx_ L145 rfl)) (by have:=HE.2.2.1;omega)) rfl (by kernel_rfl) fun xr164 v162 r164 e163 hw19=>?_
   obtain⟨_,_,rfl,⟨s166,A166,n166,c166,rfl,z166⟩,rfl⟩:=r164
   refine mv 1 rfl (pu (v:= .agg #[.bool s166,.slice A166 n166 c166]) rfl (by kernel_rfl) (pu (v:= .int .i64 0) rfl (by kernel_rfl) ?_))
   have hb168:=(((((hb125.ext (e130.trans e136)).updN u143 (by omega)).ext (e147.trans e152)).updN u159 (by omega)).ext e163)
   refine so aggInt hb168 [.bool s166,.slice A166 n166 c166] hw19 ge121 rfl rfl rfl rfl fun v167 hb169 u170 hw20=>(ne_ (sr (lo aggInt hb169 [.bool s166,.slice A166 n166 c166] rfl rfl rfl (lo aggInt ((hb158.ext e163).updN u170 (by omega)) [.bool s149,.slice A149 n149 c149] rfl rfl rfl (wl_call rfl rfl (vs:= [.agg #[.bool s166,.slice A166 n166 c166],.agg #[.bool s149,.slice A149 n149 c149]]) (by kernel_rfl) (by decide) (g_ref6_inverse hw20.size (z166.updT hb168 u170).zi (z166.le (lx_ L161 rfl)) ((((z149.ext e152).updT hb153 u159).ext e163).updT hb168 u170).zi (z149.le (lx_ L145 rfl)) HE.2.2.1 (Int.emod_nonneg _ (by have:=HE.2.2.1;omega)) (Int.emod_lt_of_pos _ HE.2.2.1) HE.2.2.2) ?_)))))
   rintro _ v172 ⟨u175,p176,xr174,rfl,r174,e173⟩
   have L177:ln (u175)≤1073741824:=Nat.le_trans (ln_mono (y:=(Int.natAbs (y.tdiv (Int.gcd x y:Int)):Int)) (by have:=p176.lo;have:=p176.hi;omega)) L145
   refine ret_intro ?_
   have hw21:=hw20.trans e173
   obtain⟨s178,A178,n178,c178,rfl,z178⟩:=r174
   have hb180:=(((((((((((hb21.ext (e26.trans e32)).updN u38 (by omega)).ext (e41.trans (e109.trans (e113.trans e119)))).updN u126 (by omega)).ext (e130.trans e136)).updN u143 (by omega)).ext (e147.trans e152)).updN u159 (by omega)).ext e163).updN u170 (by omega)).ext e173)
   refine so aggInt hb180 [.bool s178,.slice A178 n178 c178] hw21 ge22 rfl rfl rfl rfl fun v179 hb181 u182 hw22=>(ne_ (sr (lo aggInt ((((((((((((hb4.ext (e8.trans (e14.trans (e20.trans (e26.trans e32))))).updN u38 (by omega)).ext (e41.trans (e109.trans (e113.trans e119)))).updN u126 (by omega)).ext (e130.trans e136)).updN u143 (by omega)).ext (e147.trans e152)).updN u159 (by omega)).ext e163).updN u170 (by omega)).ext e173).updN u182 (by omega)) [.bool sa,.slice Aa na ca] rfl rfl rfl (lo aggInt hb181 [.bool s178,.slice A178 n178 c178] rfl rfl rfl ?_))))
   have L184:ln (x*u175)≤2147483648:=Nat.le_trans (ln_mul Lx L177) (by decide)
   refine cl (vs:= [.agg #[.bool sa,.slice Aa na ca],.agg #[.bool s178,.slice A178 n178 c178]]) hw22 (g_ref5_Mul hw22.size (hx.ext hw22) (lx_ la rfl) (z178.updT hb180 u182).zi (z178.le (lx_ L177 rfl))) rfl (by kernel_rfl) fun xr187 v185 r187 e186 hw23=>?_
   obtain⟨s188,A188,n188,c188,rfl,z188⟩:=r187
   refine alq [F0,S0] hw23 (((((hb158.ext e163).updN u170 (by omega)).ext e173).updN u182 (by omega)).ext e186).lt (fun _=>by kernel_rfl) rfl fun g189 v190 hb192 ge193 q194 e191 hw24=>(so aggInt hb192 [.bool s188,.slice A188 n188 c188] hw24 ge193 rfl rfl rfl rfl fun v195 hb197 u198 hw25=>(ne_ (sr (lo aggInt ((((((((((((hb37.ext (e41.trans (e109.trans (e113.trans e119)))).updN u126 (by omega)).ext (e130.trans e136)).updN u143 (by omega)).ext (e147.trans e152)).updN u159 (by omega)).ext e163).updN u170 (by omega)).ext e173).updN u182 (by omega)).ext (e186.trans e191)).updN u198 (by omega)) [.bool s34,.slice A34 n34 c34] rfl rfl rfl (lo aggInt hb197 [.bool s188,.slice A188 n188 c188] rfl rfl rfl ?_)))))
   have L200:ln ((Int.gcd x y:Int)-(x*u175))≤2147483649:=Nat.le_trans (ln_sub L30 L184) (by decide)
   refine cl (vs:= [.agg #[.bool s34,.slice A34 n34 c34],.agg #[.bool s188,.slice A188 n188 c188]]) hw25 (g_ref5_Sub hw25.size (((((((((((((z34.updT hb36 u38).ext (e41.trans (e109.trans (e113.trans e119)))).updT hb120 u126).ext (e130.trans e136)).updT hb137 u143).ext (e147.trans e152)).updT hb153 u159).ext e163).updT hb168 u170).ext e173).updT hb180 u182).ext (e186.trans e191)).updT hb192 u198).zi (z34.le (lx_ L30 rfl)) ((z188.ext e191).updT hb192 u198).zi (z188.le (lx_ L184 rfl))) rfl (by kernel_rfl) fun xr203 v201 r203 e202 hw26=>?_
   obtain⟨s204,A204,n204,c204,rfl,z204⟩:=r203
   have hb206:=(hb197.ext e202)
   refine so aggInt hb206 [.bool s204,.slice A204 n204 c204] hw26 ge193 rfl rfl rfl rfl fun v205 hb207 u208 hw27=>(ne_ (sr (lo aggInt hb207 [.bool s204,.slice A204 n204 c204] rfl rfl rfl (lo aggInt ((((((((((((((((hb9.ext (e14.trans (e20.trans (e26.trans e32)))).updN u38 (by omega)).ext (e41.trans (e109.trans (e113.trans e119)))).updN u126 (by omega)).ext (e130.trans e136)).updN u143 (by omega)).ext (e147.trans e152)).updN u159 (by omega)).ext e163).updN u170 (by omega)).ext e173).updN u182 (by omega)).ext (e186.trans e191)).updN u198 (by omega)).ext e202).updN u208 (by omega)) [.bool sb,.slice Ab nb cb] rfl rfl rfl ?_))))
   have L210:ln (((Int.gcd x y:Int)-(x*u175)).tdiv y)≤2147483649:=Nat.le_trans (ln_tdiv _ _) L200
   refine cl (vs:= [.agg #[.bool s204,.slice A204 n204 c204],.agg #[.bool sb,.slice Ab nb cb]]) hw27 (g_ref5_Exact_ok hw27.size (z204.updT hb206 u208).zi (z204.le (lx_ L200 rfl)) (hy.ext hw27) (lx_ lb rfl) h0 (ext6 h0 p176).2) rfl (by kernel_rfl) fun xr213 v211 r213 e212 hw28=>?_
   obtain⟨_,_,rfl,⟨s215,A215,n215,c215,rfl,z215⟩,rfl⟩:=r213
   refine mv 1 rfl (pu (v:= .agg #[.bool s215,.slice A215 n215 c215]) rfl (by kernel_rfl) (pu (v:= .int .i64 0) rfl (by kernel_rfl) ?_))
   have hb217:=(((((((((((((((((hb27.ext e32).updN u38 (by omega)).ext (e41.trans (e109.trans (e113.trans e119)))).updN u126 (by omega)).ext (e130.trans e136)).updN u143 (by omega)).ext (e147.trans e152)).updN u159 (by omega)).ext e163).updN u170 (by omega)).ext e173).updN u182 (by omega)).ext (e186.trans e191)).updN u198 (by omega)).ext e202).updN u208 (by omega)).ext e212)
   refine so aggInt hb217 [.bool s215,.slice A215 n215 c215] hw28 ge28 rfl rfl rfl rfl fun v216 hb218 u219 hw29=>(ne_ (cw_seq (cw_keep [(4,.pointer (some ⟨g12,0,none⟩)),(5,.pointer (some ⟨g18,0,none⟩)),(6,.pointer (some ⟨g24,0,none⟩))] ⟨rfl,rfl,rfl,trivial⟩ ?_)))
   obtain⟨v221,hv,e222⟩:∃v,v=v216.drew∧Ext v216 v:=⟨_,rfl,(Ext.refl _).drew⟩
   have hw30:=hw29.trans e222
   have hb224:=(((((((((((((((((hb37.ext (e41.trans (e109.trans (e113.trans e119)))).updN u126 (by omega)).ext (e130.trans e136)).updN u143 (by omega)).ext (e147.trans e152)).updN u159 (by omega)).ext e163).updN u170 (by omega)).ext e173).updN u182 (by omega)).ext (e186.trans e191)).updN u198 (by omega)).ext e202).updN u208 (by omega)).ext e212).updN u219 (by omega)).ext e222)
   obtain⟨v223,hr228,hb225,u226,hs227⟩:=run_stored (P:=Tryz.prog) (us:= [.bool s34,.slice A34 n34 c34]) (off:=0) aggInt rfl hb224 (bq rfl) rfl [.bool s34,.slice A34 n34 c34] rfl
   have hw31:=u226.ext hw30 ge16
   have hb230:=((((((((hb181.ext (e186.trans e191)).updN u198 (by omega)).ext e202).updN u208 (by omega)).ext e212).updN u219 (by omega)).ext e222).updN u226 (by omega))
   obtain⟨v229,hr234,hb231,u232,hs233⟩:=run_stored (P:=Tryz.prog) (us:= [.bool s178,.slice A178 n178 c178]) (off:=0) aggInt rfl hb230 (bq rfl) rfl [.bool s178,.slice A178 n178 c178] rfl
   have hw32:=u232.ext hw31 ge22
   have hb236:=(((hb218.ext e222).updN u226 (by omega)).updN u232 (by omega))
   obtain⟨v235,hr240,hb237,u238,hs239⟩:=run_stored (P:=Tryz.prog) (us:= [.bool s215,.slice A215 n215 c215]) (off:=0) aggInt rfl hb236 (bq rfl) rfl [.bool s215,.slice A215 n215 c215] rfl
   have hw33:=u238.ext hw32 ge28
   refine cw_det mix (w:=v221) [.agg #[.bool s34,.slice A34 n34 c34],.agg #[.bool s178,.slice A178 n178 c178],.agg #[.bool s215,.slice A215 n215 c215],undef,undef,undef] [v221,v223,v229,v235] [3,4,5] [[],[],[],[0],[1],[2]] [[],[],[],[0],[0,1,3],[0,1,2,3,4]] [(0,0),(1,0),(1,1),(2,0),(2,1),(2,2),(3,0),(4,1),(5,2)] rfl hv ?_ ?_
   · 
    refine dobs_val _ rfl rfl rfl rfl rfl (rd_load rfl (load_agg aggInt (((((((((((((((((hb37.ext (e41.trans (e109.trans (e113.trans e119)))).updN u126 (by omega)).ext (e130.trans e136)).updN u143 (by omega)).ext (e147.trans e152)).updN u159 (by omega)).ext e163).updN u170 (by omega)).ext e173).updN u182 (by omega)).ext (e186.trans e191)).updN u198 (by omega)).ext e202).updN u208 (by omega)).ext e212).updN u219 (by omega)).ext e222) [.bool s34,.slice A34 n34 c34] rfl (bq rfl) rfl)) (dobs_val _ rfl rfl rfl rfl rfl (rd_load rfl (load_agg aggInt (((((((hb181.ext (e186.trans e191)).updN u198 (by omega)).ext e202).updN u208 (by omega)).ext e212).updN u219 (by omega)).ext e222) [.bool s178,.slice A178 n178 c178] rfl (bq rfl) rfl)) (dobs_val _ rfl rfl rfl rfl rfl (rd_load rfl (load_agg aggInt ((((((((hb181.ext (e186.trans e191)).updN u198 (by omega)).ext e202).updN u208 (by omega)).ext e212).updN u219 (by omega)).ext e222).updN u226 (by omega)) [.bool s178,.slice A178 n178 c178] rfl (bq rfl) rfl)) (dobs_val _ rfl rfl rfl rfl rfl (rd_load rfl (load_agg aggInt (hb218.ext e222) [.bool s215,.slice A215 n215 c215] rfl (bq rfl) rfl)) (dobs_val _ rfl rfl rfl rfl rfl (rd_load rfl (load_agg aggInt ((hb218.ext e222).updN u226 (by omega)) [.bool s215,.slice A215 n215 c215] rfl (bq rfl) rfl)) (dobs_val _ rfl rfl rfl rfl rfl (rd_load rfl (load_agg aggInt (((hb218.ext e222).updN u226 (by omega)).updN u232 (by omega)) [.bool s215,.slice A215 n215 c215] rfl (bq rfl) rfl)) (dobs_sto _ rfl rfl rfl rfl rfl (rd_store rfl rfl hr228) (dobs_sto _ rfl rfl rfl rfl rfl (rd_store rfl rfl hr234) (dobs_sto _ rfl rfl rfl rfl rfl (rd_store rfl rfl hr240) ?_))))))))
    exact dobs_nil
   clear hv
   refine eo_keep [(4,.pointer (some ⟨g12,0,none⟩)),(5,.pointer (some ⟨g18,0,none⟩)),(6,.pointer (some ⟨g24,0,none⟩))] ⟨rfl,rfl,rfl,trivial⟩ (eo_then (cw_ret (eo_ret [.agg #[.bool s34,.slice A34 n34 c34],.agg #[.bool s178,.slice A178 n178 c178],.agg #[.bool s215,.slice A215 n215 c215]] rfl ⟨⟨_,rfl,load_agg aggInt ((hb225.updN u232 (by omega)).updN u238 (by omega)) [.bool s34,.slice A34 n34 c34] rfl (bq rfl) rfl⟩,⟨_,rfl,load_agg aggInt (hb231.updN u238 (by omega)) [.bool s178,.slice A178 n178 c178] rfl (bq rfl) rfl⟩,⟨_,rfl,load_agg aggInt hb237 [.bool s215,.slice A215 n215 c215] rfl (bq rfl) rfl⟩,trivial⟩ ?_)))
   exact⟨_,_,(ext6 h0 p176).1,_,rfl,⟨_,_,_,rfl,⟨_,_,_,_,rfl,((((((((((((((((((((((z34.updT hb36 u38).ext (e41.trans (e109.trans (e113.trans e119)))).updT hb120 u126).ext (e130.trans e136)).updT hb137 u143).ext (e147.trans e152)).updT hb153 u159).ext e163).updT hb168 u170).ext e173).updT hb180 u182).ext (e186.trans e191)).updT hb192 u198).ext e202).updT hb206 u208).ext e212).updT hb217 u219).ext e222).updT hb224 u226).updT hb230 u232).updT hb236 u238)).cast rfl⟩,⟨_,_,_,_,rfl,(((((((((((z178.updT hb180 u182).ext (e186.trans e191)).updT hb192 u198).ext e202).updT hb206 u208).ext e212).updT hb217 u219).ext e222).updT hb224 u226).updT hb230 u232).updT hb236 u238)⟩,⟨_,_,_,_,rfl,(((((z215.updT hb217 u219).ext e222).updT hb224 u226).updT hb230 u232).updT hb236 u238)⟩⟩,hw33⟩
set_option maxHeartbeats 4000000 in
theorem g_ref6_Inverse_zero {w:World}{sa:Bool}{Aa:Option Addr}{na ca:Nat}{x:Int}{sb:Bool}{Ab:Option Addr}{nb cb:Nat}{y:Int}{b:Nat}(hb:b≤w.heap.size) (hx:Zi w sa Aa na ca x) (la:na≤1073741824) (hy:Zi w sb Ab nb cb y) (lb:nb≤1073741824) (h0:y=0):
    Calls Tryz.prog 40 #[.agg #[.bool sa,.slice Aa na ca],.agg #[.bool sb,.slice Ab nb cb]] w (Gv w (T2 (ZR b (0)) (Is (.int .i64 4)))):=by
 refine Calls.mono (R:=Gv w (T2 (ZR w.heap.size (0)) (Is (.int .i64 4)))) ?_ (Gv.imp (T2.imp (ZR.imp hb) Is.imp))
 have Lx:ln x≤1073741824:=Nat.le_trans hx.ln la
 have Ly:ln y≤1073741824:=Nat.le_trans hy.ln lb
 refine sx_enter Tryz.func40 rfl (n:=35) rfl (bq rfl) (args:= [.agg #[.bool sa,.slice Aa na ca],.agg #[.bool sb,.slice Ab nb cb]]) (cw_keep [(0,.agg #[.bool sa,.slice Aa na ca]),(1,.agg #[.bool sb,.slice Ab nb cb])] ⟨rfl,rfl,trivial⟩ (sr (bx [.bool sa,.slice Aa na ca] (Ext.refl w) rfl rfl rfl fun g1 v2 hb4 ge5 e3 hw1=>(bxq [.bool sb,.slice Ab nb cb] hw1 hb4.lt rfl rfl rfl fun g6 v7 hb9 ge10 q11 e8 hw2=>(alq [F0,S0] hw2 hb9.lt (fun _=>by kernel_rfl) rfl fun g12 v13 hb15 ge16 q17 e14 hw3=>(mv 1 rfl (ne_ (cw_seq (sr (lo aggInt (hb9.ext e14) [.bool sb,.slice Ab nb cb] rfl rfl rfl (cl (vs:= [.agg #[.bool sb,.slice Ab nb cb]]) hw3 (g_ref5_Sign (hy.ext hw3) (lx_ lb rfl)) rfl (by kernel_rfl) fun xr20 v18 r20 e19 hw4=>?_)))))))))))
 obtain rfl:=r20
 refine wl_cmp rfl rfl rfl true (scmp_eq_t h0) (by decide) (ne_ (cw_true rfl (sr (pu (v:= .agg #[F0,S0]) rfl (by kernel_rfl) ?_))))
 have hb22:=(hb15.ext e19)
 refine so aggInt hb22 [F0,S0] hw4 ge16 rfl rfl rfl rfl fun v21 hb23 u24 hw5=>(mv 1 rfl (ne_ (cw_ret (eo_thenR (eo_ret [.agg #[F0,S0],.int .i64 4] rfl ⟨⟨_,rfl,load_agg aggInt hb23 [F0,S0] rfl (bq rfl) rfl⟩,rfl,trivial⟩ ?_)))))
 exact⟨_,rfl,⟨_,_,rfl,⟨_,_,_,_,rfl,((Zr.zero (w:=v18) (base:=w.heap.size)).updT hb22 u24)⟩,rfl⟩,hw5⟩
set_option maxHeartbeats 4000000 in
theorem g_ref6_Inverse_none {w:World}{sa:Bool}{Aa:Option Addr}{na ca:Nat}{x:Int}{sb:Bool}{Ab:Option Addr}{nb cb:Nat}{y:Int}{b:Nat}(hb:b≤w.heap.size) (hx:Zi w sa Aa na ca x) (la:na≤1073741824) (hy:Zi w sb Ab nb cb y) (lb:nb≤1073741824) (h0:y≠0) (hg:(Int.gcd x y:Int)≠1):
    Calls Tryz.prog 40 #[.agg #[.bool sa,.slice Aa na ca],.agg #[.bool sb,.slice Ab nb cb]] w (Gv w (T2 (ZR b (0)) (Is (.int .i64 6)))):=by
 refine Calls.mono (R:=Gv w (T2 (ZR w.heap.size (0)) (Is (.int .i64 6)))) ?_ (Gv.imp (T2.imp (ZR.imp hb) Is.imp))
 have Lx:ln x≤1073741824:=Nat.le_trans hx.ln la
 have Ly:ln y≤1073741824:=Nat.le_trans hy.ln lb
 refine sx_enter Tryz.func40 rfl (n:=35) rfl (bq rfl) (args:= [.agg #[.bool sa,.slice Aa na ca],.agg #[.bool sb,.slice Ab nb cb]]) (cw_keep [(0,.agg #[.bool sa,.slice Aa na ca]),(1,.agg #[.bool sb,.slice Ab nb cb])] ⟨rfl,rfl,trivial⟩ (sr (bx [.bool sa,.slice Aa na ca] (Ext.refl w) rfl rfl rfl fun g1 v2 hb4 ge5 e3 hw1=>(bxq [.bool sb,.slice Ab nb cb] hw1 hb4.lt rfl rfl rfl fun g6 v7 hb9 ge10 q11 e8 hw2=>(alq [F0,S0] hw2 hb9.lt (fun _=>by kernel_rfl) rfl fun g12 v13 hb15 ge16 q17 e14 hw3=>(mv 1 rfl (ne_ (cw_seq (sr (lo aggInt (hb9.ext e14) [.bool sb,.slice Ab nb cb] rfl rfl rfl (cl (vs:= [.agg #[.bool sb,.slice Ab nb cb]]) hw3 (g_ref5_Sign (hy.ext hw3) (lx_ lb rfl)) rfl (by kernel_rfl) fun xr20 v18 r20 e19 hw4=>?_)))))))))))
 obtain rfl:=r20
 refine wl_cmp rfl rfl rfl false (scmp_eq_f h0) (by decide) (ne_ (cw_false rfl (cw_skip (eo_then (sr (lo aggInt (hb4.ext (e8.trans (e14.trans e19))) [.bool sa,.slice Aa na ca] rfl rfl rfl (lo aggInt (hb9.ext (e14.trans e19)) [.bool sb,.slice Ab nb cb] rfl rfl rfl ?_)))))))
 have L21:ln ((Int.gcd x y:Int))≤1073741824:=Nat.le_trans (ln_gcd _ _) (Nat.max_le.2 ⟨Nat.le_trans Lx (by decide),Nat.le_trans Ly (by decide)⟩)
 refine cl (vs:= [.agg #[.bool sa,.slice Aa na ca],.agg #[.bool sb,.slice Ab nb cb]]) hw4 (g_ref6_Gcd hw4.size (hx.ext hw4) (lx_ la rfl) (hy.ext hw4) (lx_ lb rfl)) rfl (by kernel_rfl) fun xr24 v22 r24 e23 hw5=>?_
 obtain⟨s25,A25,n25,c25,rfl,z25⟩:=r24
 refine alq [F0,S0] hw5 (hb15.ext (e19.trans e23)).lt (fun _=>by kernel_rfl) rfl fun g26 v27 hb29 ge30 q31 e28 hw6=>(so aggInt hb29 [.bool s25,.slice A25 n25 c25] hw6 ge30 rfl rfl rfl rfl fun v32 hb34 u35 hw7=>(ne_ (cw_seq ?_)))
 refine cw_draw mix 3 [] [Is (.agg #[.bool s25,.slice A25 n25 c25]),ZR w.heap.size (1),Is (.int .i64 (scmp (Int.gcd x y:Int) 1))] [[],[],[0,1]] [[],[],[0,1],[0,1,2]] rfl
  (obs_cons rfl rfl (hob rfl rfl ?_) (obs_cons rfl rfl (hob rfl rfl ?_) (obs_cons rfl rfl (hob rfl rfl ?_) obs_nil))) ?_
 · 
  exact fun _ e39=>deps_nil (lo aggInt (hb34.ext e39) [.bool s25,.slice A25 n25 c25] rfl rfl rfl (pi_done rfl (Ext.refl _) rfl))
 · 
  intro v40 e41
  have hw8:=hw7.trans e41
  refine deps_nil (cl (vs:= []) hw8 (g_ref6_one (w:=v40) hw8.size) rfl (by kernel_rfl) fun xr44 v42 r44 e43 hw9=>?_)
  obtain⟨s45,A45,n45,c45,rfl,z45⟩:=r44
  exact pi_done rfl e43 ⟨_,_,_,_,rfl,z45⟩
 · 
  intro v46 e47
  have hw8:=hw7.trans e47
  refine dk rfl rfl (deps_cons rfl rfl fun x53 y54 h55 e56 f57=>?_)
  obtain⟨s58,A58,n58,c58,rfl,z58⟩:=h55
  have z58:=z58.ext f57
  refine deps_nil (cl (vs:= [.agg #[.bool s25,.slice A25 n25 c25],.agg #[.bool s58,.slice A58 n58 c58]]) hw8 (g_ref5_Cmp (((z25.ext e28).updT hb29 u35).ext e47).zi (z25.le (lx_ L21 rfl)) z58.zi (z58.le (Nat.le_trans (show ln 1≤1 by decide+kernel) (by decide)))) rfl (by kernel_rfl) fun xr61 v59 r61 e60 hw9=>?_)
  obtain rfl:=r61
  exact pi_done rfl e60 rfl
 · 
  intro v62 e63
  have hw8:=hw7.trans e63
  refine dk rfl rfl (deps_cons rfl rfl fun x69 y70 h71 e72 f73=>?_)
  obtain⟨s74,A74,n74,c74,rfl,z74⟩:=h71
  have z74:=z74.ext f73
  refine dk rfl rfl (deps_nil (mv 1 rfl (wl_nil (eo_np (eo_then (cw_seq (sr (mv 1 rfl (wl_cmp rfl rfl rfl true (scmp_nez_t hg) (by decide) (ne_ (cw_true rfl (sr (pu (v:= .agg #[F0,S0]) rfl (by kernel_rfl) ?_)))))))))))))
  have hb81:=(((hb15.ext (e19.trans (e23.trans e28))).updN u35 (by omega)).ext e63)
  refine so aggInt hb81 [F0,S0] hw8 ge16 rfl rfl rfl rfl fun v80 hb82 u83 hw9=>(mv 1 rfl (ne_ (cw_ret (eo_thenR (eo_ret [.agg #[F0,S0],.int .i64 6] rfl ⟨⟨_,rfl,load_agg aggInt hb82 [F0,S0] rfl (bq rfl) rfl⟩,rfl,trivial⟩ ?_)))))
  exact⟨_,rfl,⟨_,_,rfl,⟨_,_,_,_,rfl,((Zr.zero (w:=v62) (base:=w.heap.size)).updT hb81 u83)⟩,rfl⟩,hw9⟩
set_option maxHeartbeats 4000000 in
theorem g_ref6_Inverse_ok {w:World}{sa:Bool}{Aa:Option Addr}{na ca:Nat}{x:Int}{sb:Bool}{Ab:Option Addr}{nb cb:Nat}{y:Int}{b:Nat}(hb:b≤w.heap.size) (hx:Zi w sa Aa na ca x) (la:na≤1073741824) (hy:Zi w sb Ab nb cb y) (lb:nb≤1073741824) (h0:y≠0) (hg:(Int.gcd x y:Int)=1):
    Calls Tryz.prog 40 #[.agg #[.bool sa,.slice Aa na ca],.agg #[.bool sb,.slice Ab nb cb]] w (fun e w'=>∃u v,Bez x y u v∧Gv w (T2 (ZR b u) (Is (.int .i64 0))) e w'):=by
 refine Calls.mono (R:=fun e w'=>∃u v,Bez x y u v∧Gv w (T2 (ZR w.heap.size u) (Is (.int .i64 0))) e w') ?_ (fun e w2 h=>by obtain⟨u,v,h1,h2⟩:=h;exact⟨u,v,h1,Gv.imp (T2.imp (ZR.imp hb) Is.imp) _ _ h2⟩)
 have Lx:ln x≤1073741824:=Nat.le_trans hx.ln la
 have Ly:ln y≤1073741824:=Nat.le_trans hy.ln lb
 refine sx_enter Tryz.func40 rfl (n:=35) rfl (bq rfl) (args:= [.agg #[.bool sa,.slice Aa na ca],.agg #[.bool sb,.slice Ab nb cb]]) (cw_keep [(0,.agg #[.bool sa,.slice Aa na ca]),(1,.agg #[.bool sb,.slice Ab nb cb])] ⟨rfl,rfl,trivial⟩ (sr (bx [.bool sa,.slice Aa na ca] (Ext.refl w) rfl rfl rfl fun g1 v2 hb4 ge5 e3 hw1=>(bxq [.bool sb,.slice Ab nb cb] hw1 hb4.lt rfl rfl rfl fun g6 v7 hb9 ge10 q11 e8 hw2=>(alq [F0,S0] hw2 hb9.lt (fun _=>by kernel_rfl) rfl fun g12 v13 hb15 ge16 q17 e14 hw3=>(mv 1 rfl (ne_ (cw_seq (sr (lo aggInt (hb9.ext e14) [.bool sb,.slice Ab nb cb] rfl rfl rfl (cl (vs:= [.agg #[.bool sb,.slice Ab nb cb]]) hw3 (g_ref5_Sign (hy.ext hw3) (lx_ lb rfl)) rfl (by kernel_rfl) fun xr20 v18 r20 e19 hw4=>?_)))))))))))
 obtain rfl:=r20
 refine wl_cmp rfl rfl rfl false (scmp_eq_f h0) (by decide) (ne_ (cw_false rfl (cw_skip (eo_then (sr (lo aggInt (hb4.ext (e8.trans (e14.trans e19))) [.bool sa,.slice Aa na ca] rfl rfl rfl (lo aggInt (hb9.ext (e14.trans e19)) [.bool sb,.slice Ab nb cb] rfl rfl rfl ?_)))))))
 have L21:ln ((Int.gcd x y:Int))≤1073741824:=Nat.le_trans (ln_gcd _ _) (Nat.max_le.2 ⟨Nat.le_trans Lx (by decide),Nat.le_trans Ly (by decide)⟩)
 refine cl (vs:= [.agg #[.bool sa,.slice Aa na ca],.agg #[.bool sb,.slice Ab nb cb]]) hw4 (g_ref6_Gcd hw4.size (hx.ext hw4) (lx_ la rfl) (hy.ext hw4) (lx_ lb rfl)) rfl (by kernel_rfl) fun xr24 v22 r24 e23 hw5=>?_
 obtain⟨s25,A25,n25,c25,rfl,z25⟩:=r24
 refine alq [F0,S0] hw5 (hb15.ext (e19.trans e23)).lt (fun _=>by kernel_rfl) rfl fun g26 v27 hb29 ge30 q31 e28 hw6=>(so aggInt hb29 [.bool s25,.slice A25 n25 c25] hw6 ge30 rfl rfl rfl rfl fun v32 hb34 u35 hw7=>(ne_ (cw_seq ?_)))
 refine cw_draw mix 3 [] [Is (.agg #[.bool s25,.slice A25 n25 c25]),ZR w.heap.size (1),Is (.int .i64 (scmp (Int.gcd x y:Int) 1))] [[],[],[0,1]] [[],[],[0,1],[0,1,2]] rfl
  (obs_cons rfl rfl (hob rfl rfl ?_) (obs_cons rfl rfl (hob rfl rfl ?_) (obs_cons rfl rfl (hob rfl rfl ?_) obs_nil))) ?_
 · 
  exact fun _ e39=>deps_nil (lo aggInt (hb34.ext e39) [.bool s25,.slice A25 n25 c25] rfl rfl rfl (pi_done rfl (Ext.refl _) rfl))
 · 
  intro v40 e41
  have hw8:=hw7.trans e41
  refine deps_nil (cl (vs:= []) hw8 (g_ref6_one (w:=v40) hw8.size) rfl (by kernel_rfl) fun xr44 v42 r44 e43 hw9=>?_)
  obtain⟨s45,A45,n45,c45,rfl,z45⟩:=r44
  exact pi_done rfl e43 ⟨_,_,_,_,rfl,z45⟩
 · 
  intro v46 e47
  have hw8:=hw7.trans e47
  refine dk rfl rfl (deps_cons rfl rfl fun x53 y54 h55 e56 f57=>?_)
  obtain⟨s58,A58,n58,c58,rfl,z58⟩:=h55
  have z58:=z58.ext f57
  refine deps_nil (cl (vs:= [.agg #[.bool s25,.slice A25 n25 c25],.agg #[.bool s58,.slice A58 n58 c58]]) hw8 (g_ref5_Cmp (((z25.ext e28).updT hb29 u35).ext e47).zi (z25.le (lx_ L21 rfl)) z58.zi (z58.le (Nat.le_trans (show ln 1≤1 by decide+kernel) (by decide)))) rfl (by kernel_rfl) fun xr61 v59 r61 e60 hw9=>?_)
  obtain rfl:=r61
  exact pi_done rfl e60 rfl
 · 
  intro v62 e63
  have hw8:=hw7.trans e63
  refine dk rfl rfl (deps_cons rfl rfl fun x69 y70 h71 e72 f73=>?_)
  obtain⟨s74,A74,n74,c74,rfl,z74⟩:=h71
  have z74:=z74.ext f73
  refine dk rfl rfl (deps_nil (mv 1 rfl (wl_nil (eo_np (eo_then (cw_seq (sr (mv 1 rfl (wl_cmp rfl rfl rfl false (scmp_nez_f hg) (by decide) (ne_ (cw_false rfl (cw_skip (eo_then ?_)))))))))))))
  refine sr (lo aggInt (((hb9.ext (e14.trans (e19.trans (e23.trans e28)))).updN u35 (by omega)).ext e63) [.bool sb,.slice Ab nb cb] rfl rfl rfl ?_)
  have L80:ln ((Int.natAbs y:Int))≤1073741824:=(by rw [ln_abs];exact Ly)
  refine cl (vs:= [.agg #[.bool sb,.slice Ab nb cb]]) hw8 (g_ref5_Abs hw8.size (hy.ext hw8) (lx_ lb rfl)) rfl (by kernel_rfl) fun xr83 v81 r83 e82 hw9=>?_
  obtain⟨s84,A84,n84,c84,rfl,z84⟩:=r83
  refine alq [F0,S0] hw9 (hb34.ext (e63.trans e82)).lt (fun _=>by kernel_rfl) rfl fun g85 v86 hb88 ge89 q90 e87 hw10=>(so aggInt hb88 [.bool s84,.slice A84 n84 c84] hw10 ge89 rfl rfl rfl rfl fun v91 hb93 u94 hw11=>(ne_ (sr (lo aggInt ((((hb4.ext (e8.trans (e14.trans (e19.trans (e23.trans e28))))).updN u35 (by omega)).ext (e63.trans (e82.trans e87))).updN u94 (by omega)) [.bool sa,.slice Aa na ca] rfl rfl rfl (lo aggInt hb93 [.bool s84,.slice A84 n84 c84] rfl rfl rfl ?_)))))
  have L96:ln (x%(Int.natAbs y:Int))≤1073741824:=Nat.le_trans (ln_emod (show (y.natAbs:Int)≠0 by omega)) L80
  refine cl (vs:= [.agg #[.bool sa,.slice Aa na ca],.agg #[.bool s84,.slice A84 n84 c84]]) hw11 (k_ref5_Mod hw11.size (hx.ext hw11) (lx_ la rfl) ((z84.ext e87).updT hb88 u94).zi (z84.le (lx_ L80 rfl)) (show (y.natAbs:Int)≠0 by omega)) rfl (by kernel_rfl) fun xr99 v97 r99 e98 hw12=>?_
  obtain⟨_,_,rfl,⟨s101,A101,n101,c101,rfl,z101⟩,rfl⟩:=r99
  refine mv 1 rfl (pu (v:= .agg #[.bool s101,.slice A101 n101 c101]) rfl (by kernel_rfl) (pu (v:= .int .i64 0) rfl (by kernel_rfl) (alq [F0,S0] hw12 (hb93.ext e98).lt (fun _=>by kernel_rfl) rfl fun g102 v103 hb105 ge106 q107 e104 hw13=>(so aggInt hb105 [.bool s101,.slice A101 n101 c101] hw13 ge106 rfl rfl rfl rfl fun v108 hb110 u111 hw14=>(mv 1 rfl (ne_ (sr (lo aggInt hb110 [.bool s101,.slice A101 n101 c101] rfl rfl rfl (lo aggInt ((hb93.ext (e98.trans e104)).updN u111 (by omega)) [.bool s84,.slice A84 n84 c84] rfl rfl rfl (wl_call rfl rfl (vs:= [.agg #[.bool s101,.slice A101 n101 c101],.agg #[.bool s84,.slice A84 n84 c84]]) (by kernel_rfl) (by decide) (g_ref6_inverse hw14.size ((z101.ext e104).updT hb105 u111).zi (z101.le (lx_ L96 rfl)) ((((z84.ext e87).updT hb88 u94).ext (e98.trans e104)).updT hb105 u111).zi (z84.le (lx_ L80 rfl)) (by omega) (Int.emod_nonneg _ (by omega)) (Int.emod_lt_of_pos _ (by omega)) (inv_gcd2 hg)) ?_))))))))))
  rintro _ v113 ⟨u116,p117,xr115,rfl,r115,e114⟩
  have L118:ln (u116)≤1073741824:=Nat.le_trans (ln_mono (y:=(Int.natAbs y:Int)) (by have:=p117.lo;have:=p117.hi;omega)) L80
  refine ret_intro ?_
  have hw15:=hw14.trans e114
  obtain⟨s119,A119,n119,c119,rfl,z119⟩:=r115
  have hb121:=(((((((hb15.ext (e19.trans (e23.trans e28))).updN u35 (by omega)).ext (e63.trans (e82.trans e87))).updN u94 (by omega)).ext (e98.trans e104)).updN u111 (by omega)).ext e114)
  refine so aggInt hb121 [.bool s119,.slice A119 n119 c119] hw15 ge16 rfl rfl rfl rfl fun v120 hb122 u123 hw16=>(mv 1 rfl (ne_ (cw_ret (eo_ret [.agg #[.bool s119,.slice A119 n119 c119],I0] rfl ⟨⟨_,rfl,load_agg aggInt hb122 [.bool s119,.slice A119 n119 c119] rfl (bq rfl) rfl⟩,rfl,trivial⟩ ?_))))
  obtain⟨vb,hvb⟩:=bez_of_iv h0 hg p117
  exact⟨_,vb,hvb,_,rfl,⟨_,_,rfl,⟨_,_,_,_,rfl,(z119.updT hb121 u123)⟩,rfl⟩,hw16⟩
theorem UpdO.of {w w':World}{A:Option Addr}(h:w.grownBy w' none):UpdO A w w':=⟨⟨h.os,h.tape,h.output,h.size,fun k hk _=>h.block k hk (by simp)⟩⟩
theorem Upd.updO {w w':World}{g:Nat}(h:Upd g w w'){o:Nat}{x:_}:UpdO (some ⟨g,o,x⟩) w w':=⟨h.by_⟩
theorem overl_take {cs us vs:List Value}{k:Nat}(hv:cs.take k=vs) (hk:k≤cs.length):(overl cs k us).take (k+us.length)=vs++us:=by
 unfold overl
 have e:(cs.take k++us).length=k+us.length:=by rw [List.length_append,List.length_take,Nat.min_eq_left hk]
 rw [←e,List.take_left',hv]
 rfl
def Kept (w:World) (A A':Option Addr):Prop:=∀a',A'=some a'→(∃a,A=some a∧a'.block=a.block)∨w.heap.size≤a'.block
section
variable {P:Program}
theorem run_app {t ty e:TypeId}{z:Value}{s bytes:Nat}(ht:P.underlying t=some (.slice e)) (hinfo:(P.info? e).map (fun i=>(i.zero,i.size,i.bytes))=some (some z,s,bytes)) (hzs:z.cells.size=s) (hsz:0<s) (hby:bytes≤64)
  {w:World}{base:Nat}{A:Option Addr}{n cap:Nat}{xs:List Value}(hown:Own w base e s A n cap xs) (hb:base≤w.heap.size){a:Addr}{m c:Nat}{news:List Value}(hl:news.length=m*s) (hnews:∀j u,news[j]?=some u→w.cell? (a.add j)=some u)
  (h1:news.all (·.oneCell')=true) (hm:n+m≤1099511627776):
  ∃A' cap' w',(Builtin.append_ #[t,t] ty #[.slice A n cap,.slice (some a) m c]).run P w= .ok (.slice A' (n+m) cap') w'∧Own w' base e s A' (n+m) cap' (xs++news)∧UpdO A w w'∧Kept w A A':=by
 obtain⟨i,hi,hz,hz1,hz2⟩:=info_parts hinfo
 have h1':∀u∈news,u.oneCell'=true:=by simpa [List.all_eq_true] using h1
 have h63:n+m≤maxLen:=by rw [len_maxLen];omega
 have hbytes:(n+m)*bytes≤140737488355328:=by
  have:(n+m)*bytes≤1099511627776*64:=Nat.mul_le_mul hm hby
  omega
 rcases hown with⟨rfl,rfl,rfl,rfl⟩ | ⟨g,cs,rfl,hg,hk,hn,hcm,hcl,hv⟩
 ·obtain⟨v',w',hr,h2,h3,_⟩:=run_append_own (P:=P) w w.heap.size t ty e i z s bytes ht hi hz hz1 hz2 hzs hsz (.slice none 0 0) 0 [] (World.ownsRow_nil w _ e s) a m c news hl hnews h1' h63 hbytes (Nat.le_refl _)
  obtain⟨A',cap',rfl,ho⟩:=Own.of_row h2
  exact⟨A',cap',w',hr,ho.mono hb,UpdO.of h3,fun a' ha=>Or.inr (ho.block a' ha).1⟩
 ·by_cases hroom:n+m≤cap
  ·have hfit:n*s+news.length≤cs.length:=by rw [hl,hcl,←Nat.add_mul];exact Nat.mul_le_mul_right s hroom
   obtain⟨w',hst,hb2,hu,hs⟩:=store_cells (P:=P) news 0 (n*s) w cs hk (by omega) h1'
   rw [Nat.add_zero] at hb2
   have hfc:=run_firstCells_some (P:=P) w i.size m a m c news (by rw [hz1];exact hl) hnews
   rw [hz1] at hfc
   refine⟨some ⟨g,0,none⟩,cap,w',?_,Or.inr ⟨g,_,rfl,hg,hb2,hroom,hcm,?_,?_⟩,hu.updO,fun a' ha=>Or.inl ⟨_,rfl,by cases ha;rfl⟩⟩
   ·simp [Builtin.append_,run_underlying ht,sizeOf,typeInfo,hi,Builtin.lenOf,hroom,hfc,Addr.add_lit,hz1,hst]
   ·unfold overl
    simp only [List.length_append,List.length_take,List.length_drop]
    omega
   ·rw [Nat.add_mul,←hl]
    exact overl_take hv (by omega)
  ·have hx:=hv
   obtain⟨v',w',hr,h2,h3⟩:=run_append_arg_grows (P:=P) w t ty e i z s bytes ht hi hz hz1 hz2 hzs hsz ⟨g,0,none⟩ n cap xs
    (by rw [←hv,List.length_take];have:=Nat.mul_le_mul_right s hn;omega)
    (fun j u hj=>by
     have hjl:=(List.getElem?_eq_some_iff.1 hj).1
     rw [add_lit0,Nat.zero_add,hk.cell (by rw [←hv,List.length_take] at hjl;omega)]
     rw [←hv,List.getElem?_take] at hj
     split at hj
     ·rw [List.getD_eq_getElem?_getD,hj];rfl
     ·cases hj) a m c news hl hnews (by omega) h63 hbytes
   obtain⟨A',cap',rfl,ho⟩:=Own.of_row h2
   exact⟨A',cap',w',hr,ho.mono hb,UpdO.of h3,fun a' ha=>Or.inr (ho.block a' ha).1⟩
variable {Q:Exit→Act→World→Prop}{n:Nat}{l:Fr}{w:World}{ops:Array Oper}{rest:List Oper}{d:Nat}{ty:TypeId}{pos:String}{af:Array Edge}{gd:Option (Nat×Bool)}
theorem wl_app {x y:Operand}{t e:TypeId}{z:Value}{s bytes k m c cap base:Nat}{A:Option Addr}{a:Addr}{xs:List Value}(hw:guardB ops l gd=some true) (hx:evo l x=some (.slice A k cap)) (hy:evo l y=some (.slice (some a) m c))
  (ht:P.underlying t=some (.slice e)) (hinfo:(P.info? e).map (fun i=>(i.zero,i.size,i.bytes))=some (some z,s,bytes)) (hzs:z.cells.size=s) (hsz:0<s) (hby:bytes≤64)
  (hown:Own w base e s A k cap xs) (hb:base≤w.heap.size) (news:List Value) (hl:news.length=m*s) (hnews:∀j u,news[j]?=some u→w.cell? (a.add j)=some u)
  (h1:news.all (·.oneCell')=true) (hm:k+m≤1099511627776) (hn:d<n)
  (h:∀A' cap' w',Own w' base e s A' (k+m) cap' (xs++news)→UpdO A w w'→Kept w A A'→wl P ops Q n rest ((d,.slice A' (k+m) cap')::l) w'):
  wl P ops Q n (⟨some d,.call {callee:= .builtin .append,args:= #[x,y],argTypes:= #[t,t]},ty,pos,af,gd⟩::rest) l w:=by
 obtain⟨A',cap',w',hr,h2,h3,h4⟩:=run_app (P:=P) (ty:=ty) ht hinfo hzs hsz hby hown hb hl hnews h1 hm
 refine wl_val hw hn (fun a' ha=>?_) (h A' cap' w' h2 h3 h4)
 unfold execOp
 simp only [resolve,invoke,builtin,Sem.run_bind,Sem.run_pure,Result.andThen_ok,List.map_toArray,List.map_cons,List.map_nil,ha.ev hx,ha.ev hy]
 rw [hr]
 rfl
end
theorem Own.updOT {w w':World}{b b':Nat}{t T:TypeId}{s s':Nat}{A B:Option Addr}{n cap m c:Nat}{vs us:List Value}(h:Own w b t s A n cap vs) (ho:Own w b' T s' B m c us) (hT:t≠T) (x:UpdO B w w'):Own w' b t s A n cap vs:=by
 refine h.updO x (fun p q hp hq hg=>?_)
 rcases ho with⟨h1,_⟩ | ⟨k,cs,hB,_,hk,_⟩
 ·rw [h1] at hp;cases hp
 ·rcases h with⟨h2,_⟩ | ⟨k',cs',hA,_,hk',_⟩
  ·rw [h2] at hq;cases hq
  ·rw [hB] at hp;rw [hA] at hq
   cases hp;cases hq
   simp only at hg
   subst hg
   unfold Bk at hk hk'
   rw [hk] at hk'
   injection hk' with hk'
   injection hk' with e1 e2
   exact hT e2.symm
theorem elemI:Tryz.prog.underlying 28=some (.slice 27):=by kernel_rfl
theorem infoI:(Tryz.prog.info? 27).map (fun i=>(i.zero,i.size,i.bytes))=some (some (.agg #[.bool false,.slice none 0 0]),2,32):=by kernel_rfl
def ZC.zero:ZC:=⟨false,none,0,0⟩
def zcell (e:ZC):List Value:= [.bool e.s,.slice e.A e.n e.c]
def zcells:List ZC→List Value
 | []=> []
 | e::r=> .bool e.s:: .slice e.A e.n e.c::zcells r
theorem zcells_app:∀(es fs:List ZC),zcells (es++fs)=zcells es++zcells fs
 | [],fs=>rfl
 | e::r,fs=>by simp only [zcells,List.cons_append,zcells_app r fs]
theorem zcells_get0:∀(es:List ZC) (i:Nat),i<es.length→(zcells es)[i*2]?=some (.bool (es.getD i ZC.zero).s)
 | [],i,h=>by simp at h
 | e::r,0,h=>rfl
 | e::r,i+1,h=>by
  have:=zcells_get0 r i (by simpa using h)
  simpa [zcells,Nat.add_mul] using this
theorem zcells_get1:∀(es:List ZC) (i:Nat),i<es.length→(zcells es)[i*2+1]?=some (.slice (es.getD i ZC.zero).A (es.getD i ZC.zero).n (es.getD i ZC.zero).c)
 | [],i,h=>by simp at h
 | e::r,0,h=>rfl
 | e::r,i+1,h=>by
  have:=zcells_get1 r i (by simpa using h)
  simpa [zcells,Nat.add_mul] using this
theorem zcells_set:∀(es:List ZC) (i:Nat) (e:ZC),i<es.length→overl (zcells es) (i*2) (zcell e)=zcells (es.set i e)
 | [],i,e,h=>by simp at h
 | a::r,0,e,h=>by simp [zcells,overl,zcell]
 | a::r,i+1,e,h=>by
  have:=zcells_set r i e (by simpa using h)
  simp only [overl,zcell,List.length_cons,List.length_nil] at this⊢
  rw [show (i+1)*2=i*2+1+1 by omega,show i*2+1+1+(0+1+1)=i*2+(0+1+1)+1+1 by omega]
  simp only [zcells,List.take_succ_cons,List.drop_succ_cons,List.cons_append,List.set_cons_succ,this]
theorem Zl.at {w:World}{A:Option Addr}{n cap:Nat}{zs:List Int}{ms:List Nat}(h:Zl w A n cap zs ms){i:Nat}(hi:i<n):
  ∃p s B c,A.map (·.add (i*2))=some p∧(∀w',Ext w w'→∀(P:Program) (T:TypeId),AggT P T 2→(loadVar T p).run P w'= .ok (.agg #[.bool s,.slice B (ms.getD i 0) c]) w')∧Zi w s B (ms.getD i 0) c (zs.getD i 0):=by
 obtain⟨a,s,B,c,rfl,h1,h2,h3⟩:=h.get i hi
 refine⟨a.add (i*2),s,B,c,rfl,fun w' e P T hT=>load_at hT [.bool s,.slice B (ms.getD i 0) c] rfl (fun j hj=>?_),h3⟩
 rw [add_of_add]
 match j,hj with
 | 0,_=>exact e.cell h1
 | 1,_=>exact e.cell h2
theorem Zr.updOT {w w':World}{b b':Nat}{s:Bool}{A B:Option Addr}{n cap m c s':Nat}{z:Int}{T:TypeId}{us:List Value}(h:Zr w b s A n cap z) (ho:Own w b' T s' B m c us) (x:UpdO B w w') (hT:38≠T:=by decide):Zr w' b s A n cap z:=
 ⟨h.sgn,h.len,h.own.updOT ho hT x⟩
def Zo (w:World) (b:Nat) (s:Bool) (A:Option Addr) (n cap:Nat) (z:Int):Prop:=∃xs,Own w b 38 1 A n cap (xs.map W64)∧Wf xs∧sg s (nv xs)=z
section
variable {w w':World}{b:Nat}{s:Bool}{A:Option Addr}{n cap:Nat}{z:Int}
theorem Zo.zi (h:Zo w b s A n cap z):Zi w s A n cap z:=by obtain⟨xs,h1,h2,h3⟩:=h;exact⟨xs,h1.rd h2,h3⟩
theorem Zo.ext (h:Zo w b s A n cap z) (x:Ext w w'):Zo w' b s A n cap z:=by obtain⟨xs,h1,h2⟩:=h;exact⟨xs,h1.ext x,h2⟩
theorem Zo.mono {b':Nat}(h:Zo w b s A n cap z) (x:b'≤b):Zo w b' s A n cap z:=by obtain⟨xs,h1,h2⟩:=h;exact⟨xs,h1.mono x,h2⟩
theorem Zo.updT {g:Nat}{T:TypeId}{us:List Value}(h:Zo w b s A n cap z) (hb:Bk w g T us) (x:Upd g w w') (hT:38≠T:=by decide):Zo w' b s A n cap z:=by obtain⟨xs,h1,h2⟩:=h;exact⟨xs,h1.updT hb hT x,h2⟩
theorem Zo.updOT {b':Nat}{B:Option Addr}{m c s':Nat}{T:TypeId}{us:List Value}(h:Zo w b s A n cap z) (ho:Own w b' T s' B m c us) (x:UpdO B w w') (hT:38≠T:=by decide):Zo w' b s A n cap z:=by obtain⟨xs,h1,h2⟩:=h;exact⟨xs,h1.updOT ho hT x,h2⟩
end
def El (m:Option World) (b:Nat) (w:World) (e:ZC) (z:Int):Prop:=Zr w b e.s e.A e.n e.c z∨∃w0,m=some w0∧(Zi w0 e.s e.A e.n e.c z∨Zo w b e.s e.A e.n e.c z)
theorem El.ext {m:Option World}{b:Nat}{w w':World}{e:ZC}{z:Int}(h:El m b w e z) (x:Ext w w'):El m b w' e z:=h.imp (·.ext x) (fun⟨w0,h1,h2⟩=>⟨w0,h1,h2.imp id (·.ext x)⟩)
theorem El.updT {m:Option World}{b g:Nat}{w w':World}{e:ZC}{z:Int}{T:TypeId}{us:List Value}(h:El m b w e z) (hb:Bk w g T us) (x:Upd g w w') (hT:38≠T:=by decide):El m b w' e z:=h.imp (·.updT hb x hT) (fun⟨w0,h1,h2⟩=>⟨w0,h1,h2.imp id (·.updT hb x hT)⟩)
theorem El.mono {m:Option World}{b b':Nat}{w:World}{e:ZC}{z:Int}(h:El m b w e z) (x:b'≤b):El m b' w e z:=h.imp (·.mono x) (fun⟨w0,h1,h2⟩=>⟨w0,h1,h2.imp id (·.mono x)⟩)
theorem El.updOT {m:Option World}{b b':Nat}{w w':World}{e:ZC}{z:Int}{B:Option Addr}{n c s':Nat}{T:TypeId}{us:List Value}(h:El m b w e z) (ho:Own w b' T s' B n c us) (x:UpdO B w w') (hT:38≠T:=by decide):El m b w' e z:=h.imp (·.updOT ho x hT) (fun⟨w0,h1,h2⟩=>⟨w0,h1,h2.imp id (·.updOT ho x hT)⟩)
theorem El.zi {w0:World}{b:Nat}{w:World}{e:ZC}{z:Int}(h:El (some w0) b w e z) (x:Ext w0 w):Zi w e.s e.A e.n e.c z:=by
 rcases h with h | ⟨w1,h1,h2⟩
 ·exact h.zi
 ·cases h1;exact h2.elim (·.ext x) (·.zi)
theorem El.zr {b:Nat}{w:World}{e:ZC}{z:Int}(h:El none b w e z):Zr w b e.s e.A e.n e.c z:=by
 rcases h with h | ⟨w1,h1,h2⟩
 ·exact h
 ·cases h1
def Lz (m:Option World) (K b:Nat) (w:World) (lb:Nat) (A:Option Addr) (n cap:Nat) (zs:List Int):Prop:=
 ∃es,Own w lb 27 2 A n cap (zcells es)∧es.length=n∧zs.length=n∧∀i,i<n→(es.getD i ZC.zero).n≤K∧El m b w (es.getD i ZC.zero) (zs.getD i 0)
section
variable {m:Option World}{K b lb:Nat}{w w':World}{A:Option Addr}{n cap:Nat}{zs:List Int}
theorem Lz.own (h:Lz m K b w lb A n cap zs):∃vs,Own w lb 27 2 A n cap vs:=by obtain⟨es,h1,_⟩:=h;exact⟨_,h1⟩
theorem Lz.block (h:Lz m K b w lb A n cap zs):∀a,A=some a→lb≤a.block∧a.block<w.heap.size:=by obtain⟨vs,h⟩:=h.own;exact h.block
theorem Lz.len (h:Lz m K b w lb A n cap zs):zs.length=n:=by obtain⟨es,h1,h2,h3,h4⟩:=h;exact h3
theorem Lz.le (h:Lz m K b w lb A n cap zs):n≤cap:=by obtain⟨vs,h⟩:=h.own;exact h.rv.le
theorem Lz.ext (h:Lz m K b w lb A n cap zs) (x:Ext w w'):Lz m K b w' lb A n cap zs:=by
 obtain⟨es,h1,h2,h3,h4⟩:=h
 exact⟨es,h1.ext x,h2,h3,fun i hi=>⟨(h4 i hi).1,(h4 i hi).2.ext x⟩⟩
theorem Lz.updT {g:Nat}{T:TypeId}{us:List Value}(h:Lz m K b w lb A n cap zs) (hb:Bk w g T us) (x:Upd g w w') (hne:∀p,A=some p→p.block≠g) (hT:38≠T:=by decide):Lz m K b w' lb A n cap zs:=by
 obtain⟨es,h1,h2,h3,h4⟩:=h
 exact⟨es,h1.upd x hne,h2,h3,fun i hi=>⟨(h4 i hi).1,(h4 i hi).2.updT hb x hT⟩⟩
theorem Lz.updO {B:Option Addr}{lb' c k:Nat}{us:List Value}(h:Lz m K b w lb A n cap zs) (ho:Own w lb' 27 2 B k c us) (x:UpdO B w w') (hne:∀p q,B=some p→A=some q→p.block≠q.block):Lz m K b w' lb A n cap zs:=by
 obtain⟨es,h1,h2,h3,h4⟩:=h
 exact⟨es,h1.updO x hne,h2,h3,fun i hi=>⟨(h4 i hi).1,(h4 i hi).2.updOT ho x⟩⟩
theorem Lz.nil (m:Option World) (K b:Nat) (w:World) (lb:Nat):Lz m K b w lb none 0 0 []:=⟨[],Own.nil _ _ _ _,rfl,rfl,fun i hi=>by omega⟩
theorem Lz.mono {K' b' lb':Nat}(h:Lz m K b w lb A n cap zs) (hK:K≤K') (hb:b'≤b) (hl:lb'≤lb):Lz m K' b' w lb' A n cap zs:=by
 obtain⟨es,h1,h2,h3,h4⟩:=h
 exact⟨es,h1.mono hl,h2,h3,fun i hi=>⟨Nat.le_trans (h4 i hi).1 hK,(h4 i hi).2.mono hb⟩⟩
theorem Lz.at (h:Lz m K b w lb A n cap zs){i:Nat}(hi:i<n):
  ∃p s B k c,A.map (·.add (i*2))=some p∧(∀w',Ext w w'→∀(P:Program) (T:TypeId),AggT P T 2→(loadVar T p).run P w'= .ok (.agg #[.bool s,.slice B k c]) w')∧k≤K∧El m b w ⟨s,B,k,c⟩ (zs.getD i 0):=by
 obtain⟨es,h1,h2,h3,h4⟩:=h
 obtain⟨a,ha,hc⟩:=h1.rv.get (i*2) (by omega)
 obtain⟨a',ha',hc'⟩:=h1.rv.get (i*2+1) (by omega)
 rw [ha] at ha';cases ha'
 have g0:=zcells_get0 es i (by omega)
 have g1:=zcells_get1 es i (by omega)
 rw [List.getD_eq_getElem?_getD,g0] at hc
 rw [List.getD_eq_getElem?_getD,g1] at hc'
 refine⟨a.add (i*2),_,_,_,_,by rw [ha];rfl,fun w' e P T hT=>load_at hT [.bool (es.getD i ZC.zero).s,.slice (es.getD i ZC.zero).A (es.getD i ZC.zero).n (es.getD i ZC.zero).c] rfl (fun j hj=>?_),(h4 i hi).1,(h4 i hi).2⟩
 rw [add_of_add]
 match j,hj with
 | 0,_=>exact e.cell hc
 | 1,_=>exact e.cell hc'
theorem Lz.zl {w0:World}(h:Lz (some w0) K b w lb A n cap zs) (x:Ext w0 w):∃ms,Zl w A n cap zs ms∧∀i,ms.getD i 0≤K:=by
 obtain⟨es,h1,h2,h3,h4⟩:=h
 have hms:∀i,i<n→(es.map (·.n)).getD i 0=(es.getD i ZC.zero).n:=fun i hi=>by
  simp [List.getD_eq_getElem?_getD,List.getElem?_map,List.getElem?_eq_getElem (show i<es.length by omega)]
 refine⟨es.map (·.n),⟨h3,by rw [List.length_map,h2],h1.rv.le,h1.rv.max,fun i hi=>?_⟩,fun i=>?_⟩
 ·obtain⟨a,ha,hc⟩:=h1.rv.get (i*2) (by omega)
  obtain⟨a',ha',hc'⟩:=h1.rv.get (i*2+1) (by omega)
  rw [ha] at ha';cases ha'
  have g0:=zcells_get0 es i (by omega)
  have g1:=zcells_get1 es i (by omega)
  rw [List.getD_eq_getElem?_getD,g0] at hc
  rw [List.getD_eq_getElem?_getD,g1] at hc'
  rw [hms i hi]
  exact⟨a,_,_,_,ha,hc,hc',(h4 i hi).2.zi x⟩
 ·by_cases hi:i<n
  ·rw [hms i hi];exact (h4 i hi).1
  ·rw [List.getD_eq_getElem?_getD,List.getElem?_eq_none (by rw [List.length_map];omega)];exact Nat.zero_le _
theorem getD_app_l {α:Type}{l r:List α}{i:Nat}{d:α}(h:i<l.length):(l++r).getD i d=l.getD i d:=by
 rw [List.getD_eq_getElem?_getD,List.getD_eq_getElem?_getD,List.getElem?_append_left h]
theorem getD_app_m {α:Type}{l r:List α}{a d:α}:(l++a::r).getD l.length d=a:=by
 rw [List.getD_eq_getElem?_getD,List.getElem?_append_right (Nat.le_refl _),Nat.sub_self];rfl
end
theorem kept_ne {w:World}{A A':Option Addr}{g:Nat}(h:Kept w A A') (hg:g<w.heap.size) (hne:∀p,A=some p→p.block≠g):∀p,A'=some p→p.block≠g:=fun p hp=>by
 rcases h p hp with⟨a,ha,e⟩ | e
 ·rw [e];exact hne a ha
 ·omega
section
variable {Q:Exit→Act→World→Prop}{N:Nat}{l:Fr}{w:World}{ops:Array Oper}{rest:List Oper}{d:Nat}{ty:TypeId}{pos:String}{af:Array Edge}{gd:Option (Nat×Bool)}
theorem wl_appI {m:Option World}{K b lb:Nat}{A:Option Addr}{n cap:Nat}{zs:List Int}{x y:Operand}{g c:Nat}{e:ZC}{z:Int}(hw:guardB ops l gd=some true) (hx:evo l x=some (.slice A n cap)) (hy:evo l y=some (.slice (some ⟨g,0,none⟩) 1 c))
  (h:Lz m K b w lb A n cap zs) (hlb:lb≤w.heap.size) (hb:Bk w g 27 (zcell e)) (he:El m b w e z) (hK:e.n≤K) (hm:n≤1099511627775) (hd:d<N)
  (k:∀A' cap' w',Lz m K b w' lb A' (n+1) cap' (zs++ [z])→UpdO A w w'→Kept w A A'→wl Tryz.prog ops Q N rest ((d,.slice A' (n+1) cap')::l) w'):
  wl Tryz.prog ops Q N (⟨some d,.call {callee:= .builtin .append,args:= #[x,y],argTypes:= #[28,28]},ty,pos,af,gd⟩::rest) l w:=by
 obtain⟨es,h1,h2,h3,h4⟩:=h
 refine wl_app hw hx hy elemI infoI rfl (by decide) (by decide) h1 hlb (zcell e) rfl (fun j u hj=>?_) rfl (by omega) hd fun A' cap' w' ho hu hk=>k A' cap' w' ?_ hu hk
 ·have hjl:j<(zcell e).length:=(List.getElem?_eq_some_iff.1 hj).1
  rw [add_lit0,Nat.zero_add,hb.cell hjl,List.getD_eq_getElem?_getD,hj];rfl
 ·refine⟨es++ [e],by rw [zcells_app];exact ho,by simp [h2],by simp [h3],fun i hi=>?_⟩
  by_cases hin:i<n
  ·rw [getD_app_l (by omega),getD_app_l (by omega)]
   exact⟨(h4 i hin).1,(h4 i hin).2.updOT h1 hu⟩
  ·have e1:i=n:=by omega
   subst e1
   have e2:(es++ [e]).getD i ZC.zero=e:=by rw [←h2];exact getD_app_m
   have e3:(zs++ [z]).getD i 0=z:=by rw [←h3];exact getD_app_m
   rw [e2,e3]
   exact⟨hK,he.updOT h1 hu⟩
theorem wl_makeI {x y:Operand}{k:Nat}(m:Option World) (K b:Nat) (hw:guardB ops l gd=some true) (hx:evo l x=some (.int .i64 0)) (hy:evo l y=some (.int .i64 (k:Int))) (hk:k≤1099511627776) (hd:d<N)
  (h:∀g w',w.heap.size=g→Lz m K b w' g (some ⟨g,0,none⟩) 0 k []→Ext w w'→wl Tryz.prog ops Q N rest ((d,.slice (some ⟨g,0,none⟩) 0 k)::l) w'):wl Tryz.prog ops Q N (⟨some d,.makeSlice 28 x y,ty,pos,af,gd⟩::rest) l w:=by
 obtain⟨i,hi,hz0,hz1,hz2⟩:=info_parts infoI
 have hr:=run_make (P:=Tryz.prog) w 28 27 i _ elemI hi hz0 .i64 .i64 0 (k:Int) (by omega) (by omega) (by rw [hz2];omega) (by omega)
 rw [Int.toNat_natCast,show (0:Int).toNat=0 from rfl,hz1] at hr
 obtain⟨cs,hcs,hcl⟩:∃cs:List Value,madeCells (Value.agg #[.bool false,.slice none 0 0]).cells (k*2)=cs.toArray∧cs.length=k*2:=⟨(madeCells (Value.agg #[.bool false,.slice none 0 0]).cells (k*2)).toList,Array.toArray_toList.symm,by rw [Array.length_toList,size_madeCells]⟩
 rw [hcs] at hr
 refine wl_val hw hd (fun a' ha=>?_) (h _ (w.alloc (.cells cs.toArray 27)) rfl ⟨[],Or.inr ⟨w.heap.size,cs,rfl,Nat.le_refl _,Bk.new _ _ _,Nat.zero_le _,by rw [len_maxLen];omega,hcl,rfl⟩,rfl,rfl,fun i hi=>by omega⟩ ((Ext.refl w).alloc _))
 have e':(Instr.makeSlice 28 (a'.eval x) (a'.eval y)).run Tryz.prog w= .ok (.slice (some ⟨w.heap.size,0,none⟩) 0 k) (w.alloc (.cells cs.toArray 27)):=by rw [ha.ev hx,ha.ev hy];exact hr
 show ((Instr.makeSlice 28 (a'.eval x) (a'.eval y)>>=fun r=>pure (Next.value r):Sem Next)).run Tryz.prog w=_
 rw [Sem.run_bind,e'];rfl
theorem wl_setI {m:Option World}{K b lb:Nat}{A:Option Addr}{n cap i:Nat}{zs:List Int}{x y:Operand}{p:Addr}{e:ZC}{z:Int}(hw:guardB ops l gd=some true) (hx:evo l x=some (.pointer (some p))) (hy:evo l y=some (.agg #[.bool e.s,.slice e.A e.n e.c]))
  (hp:A.map (·.add (i*2))=some p) (hi:i<n) (h:Lz m K b w lb A n cap zs) (he:El m b w e z) (hK:e.n≤K)
  (k:∀w',Lz m K b w' lb A n cap (zs.set i z)→UpdO A w w'→wl Tryz.prog ops Q N rest l w'):
  wl Tryz.prog ops Q N (⟨none,.store 27 x y,ty,pos,af,gd⟩::rest) l w:=by
 obtain⟨es,h1,h2,h3,h4⟩:=h
 have h1':=h1
 rcases h1 with⟨rfl,_⟩ | ⟨g,cs,rfl,hg,hk,hn,hcm,hcl,hv⟩
 ·cases hp
 ·have hp':p=⟨g,i*2,none⟩:=by
   injection hp with hp
   rw [←hp]
   show (⟨g,0,none⟩:Addr).add (i*2)=_
   rw [add_lit0,Nat.zero_add]
  subst hp'
  have hle:=Nat.mul_le_mul_right 2 hn
  refine wl_stored hw hx (us:=zcell e) hy aggInt rfl hk (by omega) rfl _ rfl fun w' hb2 hu hs=>k w' ⟨es.set i e,Or.inr ⟨g,_,rfl,hg,hb2,hn,hcm,?_,?_⟩,by simp [h2],by simp [h3],fun j hj=>?_⟩ hu.updO
  ·unfold overl
   simp only [List.length_append,List.length_take,List.length_drop,zcell,List.length_cons,List.length_nil]
   omega
  ·rw [←zcells_set es i e (by omega),←hv]
   have hi2:i*2+2≤n*2:=by omega
   have hz:(zcell e).length=2:=rfl
   unfold overl
   rw [hz,List.take_append,List.take_append,List.take_take,List.take_take,List.length_append,List.length_take,Nat.min_eq_left (by omega:i*2≤cs.length),hz,Nat.min_eq_right (by omega),Nat.min_eq_left (by omega)]
   congr 1
   ·congr 1
    exact List.take_of_length_le (by rw [hz];omega)
   ·rw [List.drop_take]
  ·by_cases hji:j=i
   ·subst hji
    have e1:(es.set j e).getD j ZC.zero=e:=by simp [List.getD_eq_getElem?_getD,h2,hj]
    have e2:(zs.set j z).getD j 0=z:=by simp [List.getD_eq_getElem?_getD,h3,hj]
    rw [e1,e2]
    exact⟨hK,he.updOT h1' hu.updO⟩
   ·have e1:(es.set i e).getD j ZC.zero=es.getD j ZC.zero:=by simp [List.getD_eq_getElem?_getD,Ne.symm hji]
    have e2:(zs.set i z).getD j 0=zs.getD j 0:=by simp [List.getD_eq_getElem?_getD,Ne.symm hji]
    rw [e1,e2]
    exact⟨(h4 j hj).1,(h4 j hj).2.updOT h1' hu.updO⟩
end
theorem Bez.ln_u {x y u v:Int}{N:Nat}(h:Bez x y u v) (hx:ln x≤N) (hy:ln y≤N):ln u≤N+1:=by
 by_cases h0:y=0
 ·rw [(h.zero h0).1]
  refine Nat.le_trans (ln_w1 (x:=x.sign) ?_ ?_) (by omega) <;> (rcases Int.lt_trichotomy x 0 with h | h | h <;> simp [Int.sign_eq_neg_one_of_neg,Int.sign_eq_one_of_pos,h])
 ·refine Nat.le_trans (ln_mono (y:=y) ?_) (Nat.le_succ_of_le hy)
  have h1:=h.lo h0
  have h2:=h.hi h0
  have h3:0<Int.gcd x y:=Int.gcd_pos_of_ne_zero_right x h0
  have h4:u*1≤u*(Int.gcd x y:Int):=Int.mul_le_mul_of_nonneg_left (by omega) h1
  omega
theorem Bez.ln_v {x y u v:Int}{N:Nat}(h:Bez x y u v) (hx:ln x≤N) (hy:ln y≤N):ln v≤N+1:=by
 by_cases h0:y=0
 ·rw [(h.zero h0).2,ln_zero];omega
 ·refine Nat.le_trans (ln_mono (y:=x.natAbs+1) ?_) (Nat.le_trans (ln_add (a:=N) (b:=1) (by rw [ln_abs];exact hx) (by rw [ln_one];exact Nat.le_refl _)) ?_)
  ·have h1:=h.lo h0
   have h2:=h.hi h0
   have h3:0<Int.gcd x y:=Int.gcd_pos_of_ne_zero_right x h0
   have e:=h.eq
   have h4:u*1≤u*(Int.gcd x y:Int):=Int.mul_le_mul_of_nonneg_left (by omega) h1
   have h5:u.natAbs≤y.natAbs:=by omega
   have hgy:Int.gcd x y≤y.natAbs:=Nat.le_of_dvd (by omega) (Int.gcd_dvd_natAbs_right x y)
   have h6:(y*v).natAbs≤(x.natAbs+1)*y.natAbs:=by
    have e2:y*v=Int.gcd x y-x*u:=by omega
    have h7:(x*u).natAbs≤x.natAbs*y.natAbs:=by rw [Int.natAbs_mul];exact Nat.mul_le_mul_left _ h5
    rw [e2,Nat.add_mul,Nat.one_mul]
    omega
   rw [Int.natAbs_mul,Nat.mul_comm] at h6
   have h8:=Nat.le_of_mul_le_mul_right h6 (by omega)
   omega
  ·refine Nat.le_of_eq ?_
   have:1≤N:=by
    refine Nat.pos_of_ne_zero fun hN=>h0 ?_
    have h1:ln y=0:=by omega
    have:=len_wd_zero.1 (show (wd y.natAbs).length=0 from h1)
    omega
   omega
set_option maxHeartbeats 4000000 in
theorem g_bezout_one_t {w:World}{sa:Bool}{Aa:Option Addr}{na ca:Nat}{x:Int}(hx:Zi w sa Aa na ca x) (la:na≤17179869184) (h1:x=1):
    Calls Tryz.prog 79 #[.agg #[.bool sa,.slice Aa na ca]] w (Gv w (Is (.bool true))):=by
 have Lx:ln x≤17179869184:=Nat.le_trans hx.ln la
 refine sx_enter Tryz.func79 rfl (n:=7) rfl (bq rfl) (args:= [.agg #[.bool sa,.slice Aa na ca]]) (cw_keep [(0,.agg #[.bool sa,.slice Aa na ca])] ⟨rfl,trivial⟩ (sr (bx [.bool sa,.slice Aa na ca] (Ext.refl w) rfl rfl rfl fun g1 v2 hb4 ge5 e3 hw1=>(mv 1 rfl (ne_ (cw_seq ?_))))))
 refine cw_draw mix 4 [] [Is (.agg #[.bool sa,.slice Aa na ca]),ZR w.heap.size (1),Is (.int .i64 (scmp x 1)),Is (.bool true)] [[],[],[0,1],[2]] [[],[],[0,1],[0,1,2],[0,1,2,3]] rfl
  (obs_cons rfl rfl (hob rfl rfl ?_) (obs_cons rfl rfl (hob rfl rfl ?_) (obs_cons rfl rfl (hob rfl rfl ?_) (obs_cons rfl rfl (hob rfl rfl ?_) obs_nil)))) ?_
 · 
  exact fun _ e8=>deps_nil (lo aggInt (hb4.ext e8) [.bool sa,.slice Aa na ca] rfl rfl rfl (pi_done rfl (Ext.refl _) rfl))
 · 
  intro v9 e10
  have hw2:=hw1.trans e10
  refine deps_nil (cl (vs:= [.int .i64 1]) hw2 (g_zint_Of hw2.size (by decide) (by decide)) rfl (by kernel_rfl) fun xr13 v11 r13 e12 hw3=>?_)
  obtain⟨s14,A14,n14,c14,rfl,z14⟩:=r13
  exact pi_done rfl e12 ⟨_,_,_,_,rfl,z14⟩
 · 
  intro v15 e16
  have hw2:=hw1.trans e16
  refine dk rfl rfl (deps_cons rfl rfl fun x22 y23 h24 e25 f26=>?_)
  obtain⟨s27,A27,n27,c27,rfl,z27⟩:=h24
  have z27:=z27.ext f26
  refine deps_nil (cl (vs:= [.agg #[.bool sa,.slice Aa na ca],.agg #[.bool s27,.slice A27 n27 c27]]) hw2 (g_zint_Cmp (hx.ext hw2) (lx_ la rfl) z27.zi (z27.le (Nat.le_trans (show ln (1)≤1 by decide+kernel) (by decide)))) rfl (by kernel_rfl) fun xr30 v28 r30 e29 hw3=>?_)
  obtain rfl:=r30
  exact pi_done rfl e29 rfl
 · 
  exact fun _ _=>dk rfl rfl (deps_nil (wl_cmp rfl rfl rfl true (scmp_eq_t h1) (by decide) (pi_done rfl (Ext.refl _) rfl)))
 · 
  intro v38 e39
  have hw2:=hw1.trans e39
  refine dk rfl rfl (deps_cons rfl rfl fun x45 y46 h47 e48 f49=>?_)
  obtain⟨s50,A50,n50,c50,rfl,z50⟩:=h47
  have z50:=z50.ext f49
  refine dk rfl rfl (dk rfl rfl (deps_nil (mv 1 rfl (wl_nil (eo_np (eo_then (cw_ret (eo_ret [.bool true] rfl ⟨rfl,trivial⟩ ?_))))))))
  exact⟨_,rfl,rfl,hw2⟩
set_option maxHeartbeats 4000000 in
theorem g_bezout_one_f {w:World}{sa:Bool}{Aa:Option Addr}{na ca:Nat}{x:Int}(hx:Zi w sa Aa na ca x) (la:na≤17179869184) (h1:x≠1):
    Calls Tryz.prog 79 #[.agg #[.bool sa,.slice Aa na ca]] w (Gv w (Is (.bool false))):=by
 have Lx:ln x≤17179869184:=Nat.le_trans hx.ln la
 refine sx_enter Tryz.func79 rfl (n:=7) rfl (bq rfl) (args:= [.agg #[.bool sa,.slice Aa na ca]]) (cw_keep [(0,.agg #[.bool sa,.slice Aa na ca])] ⟨rfl,trivial⟩ (sr (bx [.bool sa,.slice Aa na ca] (Ext.refl w) rfl rfl rfl fun g1 v2 hb4 ge5 e3 hw1=>(mv 1 rfl (ne_ (cw_seq ?_))))))
 refine cw_draw mix 4 [] [Is (.agg #[.bool sa,.slice Aa na ca]),ZR w.heap.size (1),Is (.int .i64 (scmp x 1)),Is (.bool false)] [[],[],[0,1],[2]] [[],[],[0,1],[0,1,2],[0,1,2,3]] rfl
  (obs_cons rfl rfl (hob rfl rfl ?_) (obs_cons rfl rfl (hob rfl rfl ?_) (obs_cons rfl rfl (hob rfl rfl ?_) (obs_cons rfl rfl (hob rfl rfl ?_) obs_nil)))) ?_
 · 
  exact fun _ e8=>deps_nil (lo aggInt (hb4.ext e8) [.bool sa,.slice Aa na ca] rfl rfl rfl (pi_done rfl (Ext.refl _) rfl))
 · 
  intro v9 e10
  have hw2:=hw1.trans e10
  refine deps_nil (cl (vs:= [.int .i64 1]) hw2 (g_zint_Of hw2.size (by decide) (by decide)) rfl (by kernel_rfl) fun xr13 v11 r13 e12 hw3=>?_)
  obtain⟨s14,A14,n14,c14,rfl,z14⟩:=r13
  exact pi_done rfl e12 ⟨_,_,_,_,rfl,z14⟩
 · 
  intro v15 e16
  have hw2:=hw1.trans e16
  refine dk rfl rfl (deps_cons rfl rfl fun x22 y23 h24 e25 f26=>?_)
  obtain⟨s27,A27,n27,c27,rfl,z27⟩:=h24
  have z27:=z27.ext f26
  refine deps_nil (cl (vs:= [.agg #[.bool sa,.slice Aa na ca],.agg #[.bool s27,.slice A27 n27 c27]]) hw2 (g_zint_Cmp (hx.ext hw2) (lx_ la rfl) z27.zi (z27.le (Nat.le_trans (show ln (1)≤1 by decide+kernel) (by decide)))) rfl (by kernel_rfl) fun xr30 v28 r30 e29 hw3=>?_)
  obtain rfl:=r30
  exact pi_done rfl e29 rfl
 · 
  exact fun _ _=>dk rfl rfl (deps_nil (wl_cmp rfl rfl rfl false (scmp_eq_f h1) (by decide) (pi_done rfl (Ext.refl _) rfl)))
 · 
  intro v38 e39
  have hw2:=hw1.trans e39
  refine dk rfl rfl (deps_cons rfl rfl fun x45 y46 h47 e48 f49=>?_)
  obtain⟨s50,A50,n50,c50,rfl,z50⟩:=h47
  have z50:=z50.ext f49
  refine dk rfl rfl (dk rfl rfl (deps_nil (mv 1 rfl (wl_nil (eo_np (eo_then (cw_ret (eo_ret [F0] rfl ⟨rfl,trivial⟩ ?_))))))))
  exact⟨_,rfl,rfl,hw2⟩
set_option maxHeartbeats 4000000 in
theorem g_bezout_Inverse_zeroI {w:World}{sa:Bool}{Aa:Option Addr}{na ca:Nat}{x:Int}{sb:Bool}{Ab:Option Addr}{nb cb:Nat}{y:Int}(hx:Zi w sa Aa na ca x) (la:na≤17179869184) (hy:Zi w sb Ab nb cb y) (lb:nb≤17179869184) (h0:y=0):
    Calls Tryz.prog 48 #[.agg #[.bool sa,.slice Aa na ca],.agg #[.bool sb,.slice Ab nb cb]] w (Gv w (T2 (ZR w.heap.size (0)) (Is (.int .i64 4)))):=by
 have Lx:ln x≤17179869184:=Nat.le_trans hx.ln la
 have Ly:ln y≤17179869184:=Nat.le_trans hy.ln lb
 refine sx_enter Tryz.func48 rfl (n:=25) rfl (bq rfl) (args:= [.agg #[.bool sa,.slice Aa na ca],.agg #[.bool sb,.slice Ab nb cb]]) (cw_keep [(0,.agg #[.bool sa,.slice Aa na ca]),(1,.agg #[.bool sb,.slice Ab nb cb])] ⟨rfl,rfl,trivial⟩ (sr (bx [.bool sa,.slice Aa na ca] (Ext.refl w) rfl rfl rfl fun g1 v2 hb4 ge5 e3 hw1=>(bxq [.bool sb,.slice Ab nb cb] hw1 hb4.lt rfl rfl rfl fun g6 v7 hb9 ge10 q11 e8 hw2=>(alq [F0,S0] hw2 hb9.lt (fun _=>by kernel_rfl) rfl fun g12 v13 hb15 ge16 q17 e14 hw3=>(mv 1 rfl (ne_ (cw_seq (sr (lo aggInt (hb9.ext e14) [.bool sb,.slice Ab nb cb] rfl rfl rfl (cl (vs:= [.agg #[.bool sb,.slice Ab nb cb]]) hw3 (g_zint_Sign (hy.ext hw3) (lx_ lb rfl)) rfl (by kernel_rfl) fun xr20 v18 r20 e19 hw4=>?_)))))))))))
 obtain rfl:=r20
 refine wl_cmp rfl rfl rfl true (scmp_eq_t h0) (by decide) (ne_ (cw_true rfl (sr (pu (v:= .agg #[F0,S0]) rfl (by kernel_rfl) ?_))))
 have hb22:=(hb15.ext e19)
 refine so aggInt hb22 [F0,S0] hw4 ge16 rfl rfl rfl rfl fun v21 hb23 u24 hw5=>(mv 1 rfl (ne_ (cw_ret (eo_thenR (eo_ret [.agg #[F0,S0],.int .i64 4] rfl ⟨⟨_,rfl,load_agg aggInt hb23 [F0,S0] rfl (bq rfl) rfl⟩,rfl,trivial⟩ ?_)))))
 exact⟨_,rfl,⟨_,_,rfl,⟨_,_,_,_,rfl,((Zr.zero (w:=v18) (base:=w.heap.size)).updT hb22 u24)⟩,rfl⟩,hw5⟩
theorem g_bezout_Inverse_zero {w:World}{sa:Bool}{Aa:Option Addr}{na ca:Nat}{x:Int}{sb:Bool}{Ab:Option Addr}{nb cb:Nat}{y:Int}{b:Nat}(hb:b≤w.heap.size) (hx:Zi w sa Aa na ca x) (la:na≤17179869184) (hy:Zi w sb Ab nb cb y) (lb:nb≤17179869184) (h0:y=0):
  Calls Tryz.prog 48 #[.agg #[.bool sa,.slice Aa na ca],.agg #[.bool sb,.slice Ab nb cb]] w (Gv w (T2 (ZR b (0)) (Is (.int .i64 4)))):=(g_bezout_Inverse_zeroI hx la hy lb h0).mono (Gv.imp (T2.imp (ZR.imp hb) Is.imp))
set_option maxHeartbeats 4000000 in
theorem g_bezout_Inverse_noneI {w:World}{sa:Bool}{Aa:Option Addr}{na ca:Nat}{x:Int}{sb:Bool}{Ab:Option Addr}{nb cb:Nat}{y:Int}(hx:Zi w sa Aa na ca x) (la:na≤17179869184) (hy:Zi w sb Ab nb cb y) (lb:nb≤17179869184) (h0:y≠0) (hg:(Int.gcd x y:Int)≠1):
    Calls Tryz.prog 48 #[.agg #[.bool sa,.slice Aa na ca],.agg #[.bool sb,.slice Ab nb cb]] w (Gv w (T2 (ZR w.heap.size (0)) (Is (.int .i64 6)))):=by
 have Lx:ln x≤17179869184:=Nat.le_trans hx.ln la
 have Ly:ln y≤17179869184:=Nat.le_trans hy.ln lb
 refine sx_enter Tryz.func48 rfl (n:=25) rfl (bq rfl) (args:= [.agg #[.bool sa,.slice Aa na ca],.agg #[.bool sb,.slice Ab nb cb]]) (cw_keep [(0,.agg #[.bool sa,.slice Aa na ca]),(1,.agg #[.bool sb,.slice Ab nb cb])] ⟨rfl,rfl,trivial⟩ (sr (bx [.bool sa,.slice Aa na ca] (Ext.refl w) rfl rfl rfl fun g1 v2 hb4 ge5 e3 hw1=>(bxq [.bool sb,.slice Ab nb cb] hw1 hb4.lt rfl rfl rfl fun g6 v7 hb9 ge10 q11 e8 hw2=>(alq [F0,S0] hw2 hb9.lt (fun _=>by kernel_rfl) rfl fun g12 v13 hb15 ge16 q17 e14 hw3=>(mv 1 rfl (ne_ (cw_seq (sr (lo aggInt (hb9.ext e14) [.bool sb,.slice Ab nb cb] rfl rfl rfl (cl (vs:= [.agg #[.bool sb,.slice Ab nb cb]]) hw3 (g_zint_Sign (hy.ext hw3) (lx_ lb rfl)) rfl (by kernel_rfl) fun xr20 v18 r20 e19 hw4=>?_)))))))))))
 obtain rfl:=r20
 refine wl_cmp rfl rfl rfl false (scmp_eq_f h0) (by decide) (ne_ (cw_false rfl (cw_skip (eo_then (sr (lo aggInt (hb4.ext (e8.trans (e14.trans e19))) [.bool sa,.slice Aa na ca] rfl rfl rfl (lo aggInt (hb9.ext (e14.trans e19)) [.bool sb,.slice Ab nb cb] rfl rfl rfl (wl_call rfl rfl (vs:= [.agg #[.bool sa,.slice Aa na ca],.agg #[.bool sb,.slice Ab nb cb]]) (by kernel_rfl) (by decide) (g_bezout_Ext hw4.size (hx.ext hw4) (lx_ la rfl) (hy.ext hw4) (lx_ lb rfl)) ?_))))))))
 rintro _ v21 ⟨u24,v25,p26,xr23,rfl,r23,e22⟩
 have L27:ln ((Int.gcd x y:Int))≤17179869184:=Nat.le_trans (ln_gcd _ _) (Nat.max_le.2 ⟨Nat.le_trans Lx (by decide),Nat.le_trans Ly (by decide)⟩)
 have L28:ln (u24)≤17179869185:=(p26.ln_u Lx Ly)
 have L29:ln (v25)≤17179869185:=(p26.ln_v Lx Ly)
 refine ret_intro ?_
 have hw5:=hw4.trans e22
 obtain⟨_,_,_,rfl,⟨s31,A31,n31,c31,rfl,z31⟩,⟨s32,A32,n32,c32,rfl,z32⟩,⟨s33,A33,n33,c33,rfl,z33⟩⟩:=r23
 refine mv 1 rfl (pu (v:= .agg #[.bool s31,.slice A31 n31 c31]) rfl (by kernel_rfl) (pu (v:= .agg #[.bool s32,.slice A32 n32 c32]) rfl (by kernel_rfl) (pu (v:= .agg #[.bool s33,.slice A33 n33 c33]) rfl (by kernel_rfl) (alq [F0,S0] hw5 (hb15.ext (e19.trans e22)).lt (fun _=>by kernel_rfl) rfl fun g34 v35 hb37 ge38 q39 e36 hw6=>(alq [F0,S0] hw6 hb37.lt (fun _=>by kernel_rfl) rfl fun g40 v41 hb43 ge44 q45 e42 hw7=>(alq [F0,S0] hw7 hb43.lt (fun _=>by kernel_rfl) rfl fun g46 v47 hb49 ge50 q51 e48 hw8=>?_))))))
 have hb53:=(hb37.ext (e42.trans e48))
 refine so aggInt hb53 [.bool s31,.slice A31 n31 c31] hw8 ge38 rfl rfl rfl rfl fun v52 hb54 u55 hw9=>?_
 have hb58:=((hb43.ext e48).updN u55 (by omega))
 refine so aggInt hb58 [.bool s32,.slice A32 n32 c32] hw9 ge44 rfl rfl rfl rfl fun v57 hb59 u60 hw10=>?_
 have hb63:=((hb49.updN u55 (by omega)).updN u60 (by omega))
 refine so aggInt hb63 [.bool s33,.slice A33 n33 c33] hw10 ge50 rfl rfl rfl rfl fun v62 hb64 u65 hw11=>(ne_ (cw_seq (sr (lo aggInt ((hb54.updN u60 (by omega)).updN u65 (by omega)) [.bool s31,.slice A31 n31 c31] rfl rfl rfl (cl (vs:= [.agg #[.bool s31,.slice A31 n31 c31]]) hw11 (g_bezout_one_f ((((z31.ext (e36.trans (e42.trans e48))).updT hb53 u55).updT hb58 u60).updT hb63 u65).zi (z31.le (lx_ L27 rfl)) hg) rfl (by kernel_rfl) fun xr69 v67 r69 e68 hw12=>?_)))))
 obtain rfl:=r69
 refine pu (v:= .bool true) rfl (by kernel_rfl) (ne_ (cw_true rfl (sr (pu (v:= .agg #[F0,S0]) rfl (by kernel_rfl) ?_))))
 have hb71:=(((((hb15.ext (e19.trans (e22.trans (e36.trans (e42.trans e48))))).updN u55 (by omega)).updN u60 (by omega)).updN u65 (by omega)).ext e68)
 refine so aggInt hb71 [F0,S0] hw12 ge16 rfl rfl rfl rfl fun v70 hb72 u73 hw13=>(mv 1 rfl (ne_ (cw_ret (eo_thenR (eo_ret [.agg #[F0,S0],.int .i64 6] rfl ⟨⟨_,rfl,load_agg aggInt hb72 [F0,S0] rfl (bq rfl) rfl⟩,rfl,trivial⟩ ?_)))))
 exact⟨_,rfl,⟨_,_,rfl,⟨_,_,_,_,rfl,((Zr.zero (w:=v67) (base:=w.heap.size)).updT hb71 u73)⟩,rfl⟩,hw13⟩
theorem g_bezout_Inverse_none {w:World}{sa:Bool}{Aa:Option Addr}{na ca:Nat}{x:Int}{sb:Bool}{Ab:Option Addr}{nb cb:Nat}{y:Int}{b:Nat}(hb:b≤w.heap.size) (hx:Zi w sa Aa na ca x) (la:na≤17179869184) (hy:Zi w sb Ab nb cb y) (lb:nb≤17179869184) (h0:y≠0) (hg:(Int.gcd x y:Int)≠1):
  Calls Tryz.prog 48 #[.agg #[.bool sa,.slice Aa na ca],.agg #[.bool sb,.slice Ab nb cb]] w (Gv w (T2 (ZR b (0)) (Is (.int .i64 6)))):=(g_bezout_Inverse_noneI hx la hy lb h0 hg).mono (Gv.imp (T2.imp (ZR.imp hb) Is.imp))
set_option maxHeartbeats 4000000 in
theorem g_bezout_Inverse_okI {w:World}{sa:Bool}{Aa:Option Addr}{na ca:Nat}{x:Int}{sb:Bool}{Ab:Option Addr}{nb cb:Nat}{y:Int}(hx:Zi w sa Aa na ca x) (la:na≤17179869184) (hy:Zi w sb Ab nb cb y) (lb:nb≤17179869184) (h0:y≠0) (hg:(Int.gcd x y:Int)=1):
    Calls Tryz.prog 48 #[.agg #[.bool sa,.slice Aa na ca],.agg #[.bool sb,.slice Ab nb cb]] w (fun e w'=>∃u v,Bez x y u v∧Gv w (T2 (ZR w.heap.size u) (Is (.int .i64 0))) e w'):=by
 have Lx:ln x≤17179869184:=Nat.le_trans hx.ln la
 have Ly:ln y≤17179869184:=Nat.le_trans hy.ln lb
 refine sx_enter Tryz.func48 rfl (n:=25) rfl (bq rfl) (args:= [.agg #[.bool sa,.slice Aa na ca],.agg #[.bool sb,.slice Ab nb cb]]) (cw_keep [(0,.agg #[.bool sa,.slice Aa na ca]),(1,.agg #[.bool sb,.slice Ab nb cb])] ⟨rfl,rfl,trivial⟩ (sr (bx [.bool sa,.slice Aa na ca] (Ext.refl w) rfl rfl rfl fun g1 v2 hb4 ge5 e3 hw1=>(bxq [.bool sb,.slice Ab nb cb] hw1 hb4.lt rfl rfl rfl fun g6 v7 hb9 ge10 q11 e8 hw2=>(alq [F0,S0] hw2 hb9.lt (fun _=>by kernel_rfl) rfl fun g12 v13 hb15 ge16 q17 e14 hw3=>(mv 1 rfl (ne_ (cw_seq (sr (lo aggInt (hb9.ext e14) [.bool sb,.slice Ab nb cb] rfl rfl rfl (cl (vs:= [.agg #[.bool sb,.slice Ab nb cb]]) hw3 (g_zint_Sign (hy.ext hw3) (lx_ lb rfl)) rfl (by kernel_rfl) fun xr20 v18 r20 e19 hw4=>?_)))))))))))
 obtain rfl:=r20
 refine wl_cmp rfl rfl rfl false (scmp_eq_f h0) (by decide) (ne_ (cw_false rfl (cw_skip (eo_then (sr (lo aggInt (hb4.ext (e8.trans (e14.trans e19))) [.bool sa,.slice Aa na ca] rfl rfl rfl (lo aggInt (hb9.ext (e14.trans e19)) [.bool sb,.slice Ab nb cb] rfl rfl rfl (wl_call rfl rfl (vs:= [.agg #[.bool sa,.slice Aa na ca],.agg #[.bool sb,.slice Ab nb cb]]) (by kernel_rfl) (by decide) (g_bezout_Ext hw4.size (hx.ext hw4) (lx_ la rfl) (hy.ext hw4) (lx_ lb rfl)) ?_))))))))
 rintro _ v21 ⟨u24,v25,p26,xr23,rfl,r23,e22⟩
 have L27:ln ((Int.gcd x y:Int))≤17179869184:=Nat.le_trans (ln_gcd _ _) (Nat.max_le.2 ⟨Nat.le_trans Lx (by decide),Nat.le_trans Ly (by decide)⟩)
 have L28:ln (u24)≤17179869185:=(p26.ln_u Lx Ly)
 have L29:ln (v25)≤17179869185:=(p26.ln_v Lx Ly)
 refine ret_intro ?_
 have hw5:=hw4.trans e22
 obtain⟨_,_,_,rfl,⟨s31,A31,n31,c31,rfl,z31⟩,⟨s32,A32,n32,c32,rfl,z32⟩,⟨s33,A33,n33,c33,rfl,z33⟩⟩:=r23
 refine mv 1 rfl (pu (v:= .agg #[.bool s31,.slice A31 n31 c31]) rfl (by kernel_rfl) (pu (v:= .agg #[.bool s32,.slice A32 n32 c32]) rfl (by kernel_rfl) (pu (v:= .agg #[.bool s33,.slice A33 n33 c33]) rfl (by kernel_rfl) (alq [F0,S0] hw5 (hb15.ext (e19.trans e22)).lt (fun _=>by kernel_rfl) rfl fun g34 v35 hb37 ge38 q39 e36 hw6=>(alq [F0,S0] hw6 hb37.lt (fun _=>by kernel_rfl) rfl fun g40 v41 hb43 ge44 q45 e42 hw7=>(alq [F0,S0] hw7 hb43.lt (fun _=>by kernel_rfl) rfl fun g46 v47 hb49 ge50 q51 e48 hw8=>?_))))))
 have hb53:=(hb37.ext (e42.trans e48))
 refine so aggInt hb53 [.bool s31,.slice A31 n31 c31] hw8 ge38 rfl rfl rfl rfl fun v52 hb54 u55 hw9=>?_
 have hb58:=((hb43.ext e48).updN u55 (by omega))
 refine so aggInt hb58 [.bool s32,.slice A32 n32 c32] hw9 ge44 rfl rfl rfl rfl fun v57 hb59 u60 hw10=>?_
 have hb63:=((hb49.updN u55 (by omega)).updN u60 (by omega))
 refine so aggInt hb63 [.bool s33,.slice A33 n33 c33] hw10 ge50 rfl rfl rfl rfl fun v62 hb64 u65 hw11=>(ne_ (cw_seq (sr (lo aggInt ((hb54.updN u60 (by omega)).updN u65 (by omega)) [.bool s31,.slice A31 n31 c31] rfl rfl rfl (cl (vs:= [.agg #[.bool s31,.slice A31 n31 c31]]) hw11 (g_bezout_one_t ((((z31.ext (e36.trans (e42.trans e48))).updT hb53 u55).updT hb58 u60).updT hb63 u65).zi (z31.le (lx_ L27 rfl)) hg) rfl (by kernel_rfl) fun xr69 v67 r69 e68 hw12=>?_)))))
 obtain rfl:=r69
 refine pu (v:= .bool false) rfl (by kernel_rfl) (ne_ (cw_false rfl (cw_skip (eo_then (sr (lo aggInt ((hb59.updN u65 (by omega)).ext e68) [.bool s32,.slice A32 n32 c32] rfl rfl rfl ?_))))))
 have hb71:=(((((hb15.ext (e19.trans (e22.trans (e36.trans (e42.trans e48))))).updN u55 (by omega)).updN u60 (by omega)).updN u65 (by omega)).ext e68)
 refine so aggInt hb71 [.bool s32,.slice A32 n32 c32] hw12 ge16 rfl rfl rfl rfl fun v70 hb72 u73 hw13=>(mv 1 rfl (ne_ (cw_ret (eo_ret [.agg #[.bool s32,.slice A32 n32 c32],I0] rfl ⟨⟨_,rfl,load_agg aggInt hb72 [.bool s32,.slice A32 n32 c32] rfl (bq rfl) rfl⟩,rfl,trivial⟩ ?_))))
 exact⟨u24,v25,p26,_,rfl,⟨_,_,rfl,⟨_,_,_,_,rfl,((((((z32.ext (e36.trans (e42.trans e48))).updT hb53 u55).updT hb58 u60).updT hb63 u65).ext e68).updT hb71 u73)⟩,rfl⟩,hw13⟩
theorem g_bezout_Inverse_ok {w:World}{sa:Bool}{Aa:Option Addr}{na ca:Nat}{x:Int}{sb:Bool}{Ab:Option Addr}{nb cb:Nat}{y:Int}{b:Nat}(hb:b≤w.heap.size) (hx:Zi w sa Aa na ca x) (la:na≤17179869184) (hy:Zi w sb Ab nb cb y) (lb:nb≤17179869184) (h0:y≠0) (hg:(Int.gcd x y:Int)=1):
  Calls Tryz.prog 48 #[.agg #[.bool sa,.slice Aa na ca],.agg #[.bool sb,.slice Ab nb cb]] w (fun e w'=>∃u v,Bez x y u v∧Gv w (T2 (ZR b u) (Is (.int .i64 0))) e w'):=(g_bezout_Inverse_okI hx la hy lb h0 hg).mono fun e w2 h=>(by obtain⟨u,v,h1,h2⟩:=h;exact⟨u,v,h1,Gv.imp (T2.imp (ZR.imp hb) Is.imp) _ _ h2⟩)
theorem getD_snoc {α:Type}{l:List α}{k:Nat}{d:α}(h:k<l.length):l.take (k+1)=l.take k++ [l.getD k d]:=by
 rw [List.take_add_one,List.getD_eq_getElem?_getD,List.getElem?_eq_getElem h];rfl
def gcdL (zs:List Int):Int:=zs.foldl (fun g z=>(Int.gcd g z:Int)) 0
theorem gcdL_snoc (zs:List Int) (z:Int):gcdL (zs++ [z])=(Int.gcd (gcdL zs) z:Int):=by unfold gcdL;rw [List.foldl_append];rfl
theorem gcdL_succ {zs:List Int}{k:Nat}(h:k<zs.length):(Int.gcd (gcdL (zs.take k)) (zs.getD k 0):Int)=gcdL (zs.take (k+1)):=by rw [getD_snoc (d:=0) h,gcdL_snoc]
theorem ln_gcdL {zs:List Int}{N:Nat}(h:∀i,ln (zs.getD i 0)≤N) (k:Nat):ln (gcdL (zs.take k))≤N:=by
 induction k with
 | zero=>rw [List.take_zero];exact Nat.zero_le _
 | succ k ih=>
  by_cases hk:k<zs.length
  ·rw [←gcdL_succ hk];exact Nat.le_trans (ln_gcd _ _) (Nat.max_le.2 ⟨ih,h k⟩)
  ·rw [List.take_of_length_le (by omega)] at ih⊢;exact ih
theorem ln_getD {zs:List Int}{N:Nat}{w:World}{A:Option Addr}{n cap:Nat}{ms:List Nat}(h:Zl w A n cap zs ms) (hm:∀i,ms.getD i 0≤N) (i:Nat):ln (zs.getD i 0)≤N:=by
 by_cases hi:i<n
 ·obtain⟨p,s,B,c,_,_,hz⟩:=h.at hi
  exact Nat.le_trans hz.ln (hm i)
 ·rw [List.getD_eq_getElem?_getD,List.getElem?_eq_none (by rw [h.len];omega)];exact Nat.zero_le _
theorem zl_full {zs:List Int}{w:World}{A:Option Addr}{n cap:Nat}{ms:List Nat}(h:Zl w A n cap zs ms):zs.take n=zs:=List.take_of_length_le (by rw [h.len];exact Nat.le_refl _)
set_option maxHeartbeats 4000000 in
theorem g_bezout_GcdAll {w:World}{b:Nat}(hb:b≤w.heap.size){A:Option Addr}{n cap:Nat}{zs:List Int}{ms:List Nat}(hl:Zl w A n cap zs ms) (hn:n≤2097152) (hmb:∀i,ms.getD i 0≤16777216):
    Calls Tryz.prog 45 #[.slice A n cap] w (Gv w (ZR b (gcdL zs))):=by
 have hln:∀i,ln (zs.getD i 0)≤16777216:=ln_getD hl hmb
 refine sx_enter Tryz.func45 rfl (n:=17) rfl (bq rfl) (args:= [.slice A n cap]) (cw_keep [(0,.slice A n cap)] ⟨rfl,trivial⟩ (sr (al [F0,S0] (Ext.refl w) (fun _=>by kernel_rfl) rfl fun g1 v2 hb4 ge5 e3 hw1=>(ne_ (sr (alq [F0,S0] hw1 hb4.lt (fun _=>by kernel_rfl) rfl fun g6 v7 hb9 ge10 q11 e8 hw2=>(ne_ (cw_seq (sr (mv 1 rfl (pu (v:= .int .i64 ((n:Nat):Int)) rfl (by kernel_rfl) (mv 1 rfl (wl_nil ?_)))))))))))))
 refine eo_then (cw_block ?_)
 refine cw_loop (T:=World×Nat×ZC)
  (fun⟨wr,k,kg⟩=> [(2,.pointer (some ⟨g1,0,none⟩)),(3,.pointer (some ⟨g6,0,none⟩)),(6,.slice A n cap),(7,.int .i64 ((n:Nat):Int)),(8,.int .i64 ((k:Nat):Int))])
  (fun⟨wr,k,kg⟩=>wr)
  (fun⟨wr,k,kg⟩=>(Ext w wr)∧(k≤n)∧(Bk wr g1 27 [F0,S0])∧(Bk wr g6 27 [.bool kg.s,.slice kg.A kg.n kg.c])∧(Zr wr w.heap.size kg.s kg.A kg.n kg.c (gcdL (zs.take k))))
  (fun⟨wr,k,kg⟩=>n-k)
  (⟨v7,0,⟨false,none,0,0⟩⟩:World×Nat×ZC) ⟨hw2,Nat.zero_le _,(hb4.ext e8),hb9,Zr.zero⟩ rfl ⟨rfl,rfl,rfl,rfl,rfl,trivial⟩ ?_
 rintro⟨wr,k,kg⟩ ⟨hw1,hk,b_2,b_3,zg⟩
 refine cw_re [(2,.pointer (some ⟨g1,0,none⟩)),(3,.pointer (some ⟨g6,0,none⟩)),(6,.slice A n cap),(7,.int .i64 ((n:Nat):Int)),(8,.int .i64 ((k:Nat):Int))] wr rfl ⟨rfl,rfl,rfl,rfl,rfl,trivial⟩ (cw_seq ?_)
 by_cases hkn:k<n
 · 
  refine cw_region (wl_cmp rfl rfl rfl true (cb_lt_t (a:=k) (b:=n) rfl rfl (by omega)) (by decide) (ne_ (cw_seq (cw_true rfl (cw_skip (eo_then (cw_seq (cw_block (sr ?_)))))))))
  obtain⟨pz12,sz12,Bz12,cz12,hpz12,ldz12,ez12⟩:=hl.at (i:=k) (by omega)
  refine wl_idx rfl rfl rfl elemI aggInt.size k rfl (by omega) pz12 hpz12 (by decide) (wl_load rfl rfl (ldz12 _ hw1 _ _ aggInt) (by decide) (alq [F0,S0] hw1 b_3.lt (fun _=>by kernel_rfl) rfl fun g13 v14 hb16 ge17 q18 e15 hw2=>(so aggInt hb16 [.bool sz12,.slice Bz12 (ms.getD k 0) cz12] hw2 ge17 rfl rfl rfl rfl fun v19 hb21 u22 hw3=>(ne_ (cw_region (lo aggInt ((b_3.ext e15).updN u22 (by omega)) [.bool kg.s,.slice kg.A kg.n kg.c] rfl rfl rfl (lo aggInt hb21 [.bool sz12,.slice Bz12 (ms.getD k 0) cz12] rfl rfl rfl ?_)))))))
  have L24:ln ((Int.gcd (gcdL (zs.take k)) (zs.getD k 0):Int))≤16777216:=Nat.le_trans (ln_gcd _ _) (Nat.max_le.2 ⟨Nat.le_trans (ln_gcdL hln k) (by decide),Nat.le_trans (Nat.le_trans ez12.ln (hmb k)) (by decide)⟩)
  refine cl (vs:= [.agg #[.bool kg.s,.slice kg.A kg.n kg.c],.agg #[.bool sz12,.slice Bz12 (ms.getD k 0) cz12]]) hw3 (g_bezout_Gcd hw3.size ((zg.ext e15).updT hb16 u22).zi (zg.le (Nat.le_trans (ln_gcdL hln k) (by decide))) (ez12.ext hw3) (Nat.le_trans (hmb k) (by decide))) rfl (by kernel_rfl) fun xr27 v25 r27 e26 hw4=>?_
  obtain⟨s28,A28,n28,c28,rfl,z28⟩:=r27
  have hb30:=(((b_3.ext e15).updN u22 (by omega)).ext e26)
  refine so aggInt hb30 [.bool s28,.slice A28 n28 c28] hw4 ge10 rfl rfl rfl rfl fun v29 hb31 u32 hw5=>(wl_nil (eo_block_normal (eo_then (cw_region (wl_ar rfl rfl rfl ((k+1:Nat):Int) (ai_add (a:=k) (b:=1) rfl rfl (by omega)) (by decide) (mv 1 rfl (wl_nil (eo_round (⟨v29,k+1,⟨s28,A28,n28,c28⟩⟩:World×Nat×ZC) ⟨hw5,(by omega),((((b_2.ext e15).updN u22 (by omega)).ext e26).updN u32 (by omega)),hb31,((z28.updT hb30 u32)).cast (gcdL_succ (by rw [hl.len];omega))⟩ (show n-(k+1)<n-k by omega) rfl ⟨rfl,rfl,rfl,rfl,rfl,trivial⟩))))))))
 · 
  refine cw_region (wl_cmp rfl rfl rfl false (cb_lt_f (a:=k) (b:=n) rfl rfl (by omega)) (by decide) (ne_ (cw_seq (cw_false rfl (cw_exit (eo_thenX (eo_loopX (eo_block_here (eo_then (sr (lo aggInt b_3 [.bool kg.s,.slice kg.A kg.n kg.c] rfl rfl rfl ?_)))))))))))
  have hb35:=b_2
  refine so aggInt hb35 [.bool kg.s,.slice kg.A kg.n kg.c] hw1 ge5 rfl rfl rfl rfl fun v34 hb36 u37 hw2=>(ne_ (cw_ret (eo_ret [.agg #[.bool kg.s,.slice kg.A kg.n kg.c]] rfl ⟨⟨_,rfl,load_agg aggInt hb36 [.bool kg.s,.slice kg.A kg.n kg.c] rfl (bq rfl) rfl⟩,trivial⟩ ?_)))
  have hkn2:k=n:=by omega
  exact⟨_,rfl,⟨_,_,_,_,rfl,(((zg.updT hb35 u37)).cast (show gcdL (zs.take k)=gcdL zs by rw [hkn2,zl_full hl])).mono hb⟩,hw2⟩
def dotL:List Int→List Int→Int
 | z::zs,c::cs=>z*c+dotL zs cs
 | _,_=>0
theorem dotL_snoc:∀(zs cs:List Int) (z c:Int),zs.length=cs.length→dotL (zs++ [z]) (cs++ [c])=dotL zs cs+z*c
 | [],[],z,c,_=>by simp [dotL]
 | a::zs,b::cs,z,c,h=>by simp only [List.cons_append,dotL,dotL_snoc zs cs z c (by simpa using h)];omega
 | [],b::cs,z,c,h=>by simp at h
 | a::zs,[],z,c,h=>by simp at h
theorem dotL_mul:∀(zs cs:List Int) (u:Int),dotL zs (cs.map (· *u))=dotL zs cs*u
 | [],cs,u=>by cases cs <;> simp [dotL]
 | a::zs,[],u=>by simp [dotL]
 | a::zs,b::cs,u=>by simp only [List.map_cons,dotL,dotL_mul zs cs u,Int.add_mul,Int.mul_assoc]
def mulTo (cs:List Int) (u:Int) (j:Nat):List Int:=(cs.take j).map (· *u)++cs.drop j
theorem mulTo_zero (cs:List Int) (u:Int):mulTo cs u 0=cs:=by simp [mulTo]
theorem mulTo_full {cs:List Int}{u:Int}{k:Nat}(h:cs.length=k):mulTo cs u k=cs.map (· *u):=by subst h;simp [mulTo]
theorem mulTo_get {cs:List Int}{u:Int}{j:Nat}(h:j<cs.length):(mulTo cs u j).getD j 0=cs.getD j 0:=by
 have e:((cs.take j).map (· *u)).length=j:=by simp;omega
 unfold mulTo
 rw [List.getD_eq_getElem?_getD,List.getElem?_append_right (by omega),e,Nat.sub_self,List.getElem?_drop,List.getD_eq_getElem?_getD,Nat.add_zero]
theorem mulTo_succ {cs:List Int}{u:Int}{j:Nat}(h:j<cs.length):(mulTo cs u j).set j ((mulTo cs u j).getD j 0*u)=mulTo cs u (j+1):=by
 rw [mulTo_get h]
 have e:((cs.take j).map (· *u)).length=j:=by simp;omega
 unfold mulTo
 rw [List.set_append_right _ _ (by omega),e,Nat.sub_self,getD_snoc (d:=0) h,List.map_append,List.append_assoc]
 congr 1
 rw [List.drop_eq_getElem_cons h,List.set_cons_zero,List.getD_eq_getElem?_getD,List.getElem?_eq_getElem h]
 rfl
def sl (zs:List Int):Nat:=(zs.map fun z=>ln z+1).sum
theorem sl_snoc (zs:List Int) (z:Int):sl (zs++ [z])=sl zs+(ln z+1):=by simp [sl]
theorem sl_eq:∀zs:List Int,sl zs=(zs.map ln).sum+zs.length
 | []=>rfl
 | a::r=>by
  have ih:=sl_eq r
  simp only [sl,List.map_cons,List.sum_cons,List.length_cons] at ih⊢;omega
theorem sl_le (zs:List Int):∀k,sl (zs.take k)≤(zs.map ln).sum+zs.length:=by
 intro k
 have h1:sl (zs.take k)≤sl zs:=by
  have e:sl zs=sl (zs.take k)+sl (zs.drop k):=by
   unfold sl;rw [←List.sum_append,←List.map_append,List.take_append_drop]
  omega
 have h2:=sl_eq zs
 omega
theorem Bez.ln_u2 {x y u v:Int}(h:Bez x y u v):ln u≤ln y+1:=by
 by_cases hy:y=0
 ·rw [(h.zero hy).1]
  rcases Int.lt_trichotomy x 0 with hx | hx | hx
  ·rw [Int.sign_eq_neg_one_of_neg hx];exact Nat.le_trans (ln_w1 (by decide) (by decide)) (by omega)
  ·subst hx;exact Nat.zero_le _
  ·rw [Int.sign_eq_one_of_pos hx];exact Nat.le_trans (ln_w1 (by decide) (by decide)) (by omega)
 ·have h1:=h.lo hy
  have h2:=h.hi hy
  have h3:=Int.gcd_pos_of_ne_zero_right x hy
  refine Nat.le_trans (ln_mono (y:=y) ?_) (Nat.le_succ _)
  have h4:u*1≤u*(Int.gcd x y:Int):=Int.mul_le_mul_of_nonneg_left (by omega) h1
  omega
theorem mulTo_len {cs:List Int}{u:Int}{j:Nat}:(mulTo cs u j).length=cs.length:=by simp [mulTo];omega
theorem ext_step {zs cs:List Int}{k j:Nat}(hj:j=k){u v:Int}(hk:k<zs.length) (hl:cs.length=k) (hd:dotL (zs.take k) cs=gcdL (zs.take k)) (h:Bez (gcdL (zs.take k)) (zs.getD k 0) u v):
  dotL (zs.take (k+1)) (mulTo cs u j++ [v])=gcdL (zs.take (k+1)):=by
 rw [hj,mulTo_full hl,getD_snoc (d:=0) hk,dotL_snoc _ _ _ _ (by simp;omega),dotL_mul,hd,gcdL_snoc]
 exact h.eq
theorem getD_map0 {cs:List Int}{u:Int}(i:Nat):(cs.map (· *u)).getD i 0=cs.getD i 0*u:=by
 simp only [List.getD_eq_getElem?_getD,List.getElem?_map]
 cases cs[i]? <;> simp
theorem ext_bound {zs cs:List Int}{k j:Nat}(hj:j=k){u v g:Int}{M:Nat}(hk:k<zs.length) (hl:cs.length=k) (hB:∀i,ln (cs.getD i 0)≤M+sl (zs.take k)) (h:Bez g (zs.getD k 0) u v) (hv:ln v≤M):
  ∀i,ln ((mulTo cs u j++ [v]).getD i 0)≤M+sl (zs.take (k+1)):=by
 intro i
 rw [hj,mulTo_full hl,getD_snoc (d:=0) hk,sl_snoc]
 by_cases hi:i<k
 ·rw [getD_app_l (by simp;omega),getD_map0]
  have h1:=hB i
  have h2:=h.ln_u2
  exact Nat.le_trans (ln_mul h1 h2) (by omega)
 ·by_cases hik:i=k
  ·subst hik
   have e:((cs.map (· *u))++ [v]).getD i 0=v:=by
    have e2:(cs.map (· *u)).length=i:=by simp [hl]
    rw [←e2];exact getD_app_m
   rw [e];omega
  ·rw [List.getD_eq_getElem?_getD,List.getElem?_eq_none (by simp;omega)];exact Nat.zero_le _
def LR (K b lb n:Nat) (zs:List Int) (v:Value) (w:World):Prop:=∃A cap,v= .slice A n cap∧Lz none K b w lb A n cap zs
def ExtR:List Int→List Int→Prop
 | [],cs=>cs= []
 | z::zs,cs=>∃u v c,ExtR zs c∧Bez (gcdL zs.reverse) z u v∧cs=c.map (· *u)++ [v]
theorem ext_exr {zs cs:List Int}{k j:Nat}(hj:j=k){u v:Int}(hk:k<zs.length) (hl:cs.length=k) (hd:ExtR (zs.take k).reverse cs) (h:Bez (gcdL (zs.take k)) (zs.getD k 0) u v):ExtR (zs.take (k+1)).reverse (mulTo cs u j++ [v]):=by
 rw [hj,mulTo_full hl,getD_snoc (d:=0) hk,List.reverse_append]
 exact⟨u,v,cs,hd,by show Bez (gcdL (zs.take k).reverse.reverse) _ u v;rw [List.reverse_reverse];exact h,rfl⟩
structure ExtL (zs cs:List Int) (n:Nat):Prop where
 ex:ExtR zs.reverse cs
 len:cs.length=n
 dot:dotL zs cs=gcdL zs
 ln:∀i,Go.Proofs.YtgilhcdglaneiaaGreat.ln (cs.getD i 0)≤3145730
set_option maxHeartbeats 4000000 in
theorem g_bezout_ExtAll {w:World}{b b2:Nat}(hb:b≤w.heap.size) (hb2:b2≤w.heap.size){A:Option Addr}{n cap:Nat}{zs:List Int}{ms:List Nat}(hl:Zl w A n cap zs ms) (hn:n≤1048576) (hmb:∀i,ms.getD i 0≤1048576) (hsum:(zs.map ln).sum≤1048576):
    Calls Tryz.prog 47 #[.slice A n cap] w (fun e w'=>∃cs,ExtL zs cs n∧Gv w (T2 (ZR b (gcdL zs)) (LR 8388608 b b2 n cs)) e w'):=by
 have hln:∀i,ln (zs.getD i 0)≤1048576:=ln_getD hl hmb
 have hsl:∀k,sl (zs.take k)≤2097152:=fun k=>Nat.le_trans (sl_le zs k) (by rw [hl.len];omega)
 refine sx_enter Tryz.func47 rfl (n:=51) rfl (bq rfl) (args:= [.slice A n cap]) (cw_keep [(0,.slice A n cap)] ⟨rfl,trivial⟩ (sr (al [F0,S0] (Ext.refl w) (fun _=>by kernel_rfl) rfl fun g1 v2 hb4 ge5 e3 hw1=>(mv 1 rfl (ne_ (sr (alq [F0,S0] hw1 hb4.lt (fun _=>by kernel_rfl) rfl fun g6 v7 hb9 ge10 q11 e8 hw2=>(ne_ (sr (mv 1 rfl (pu (v:= .int .i64 ((n:Nat):Int)) rfl (by kernel_rfl) (wl_makeI (k:=n) none 8388608 w.heap.size rfl rfl rfl (by omega) (by decide) fun g12 v13 hg14 lz15 e16=>?_))))))))))))
 have q17:g1<g12:=by rw [←hg14];exact (hb4.ext e8).lt
 have q18:g6<g12:=by rw [←hg14];exact hb9.lt
 have hlbg12:g12≤v13.heap.size:=by have:=(lz15.block _ rfl).2;exact Nat.le_of_lt this
 have hglg12:w.heap.size≤g12:=by rw [←hg14];exact hw2.size
 clear hg14
 have hw3:=hw2.trans e16
 have blk19:=lz15.block
 refine mv 1 rfl (ne_ (cw_seq (sr (mv 1 rfl (pu (v:= .int .i64 ((n:Nat):Int)) rfl (by kernel_rfl) (mv 1 rfl (ne_ (cw_block ?_))))))))
 refine cw_loop (T:=World×Nat×ZC×Option Addr×Nat×List Int)
  (fun⟨wr,k,kg,LA,lc,cs⟩=> [(2,.pointer (some ⟨g1,0,none⟩)),(3,.slice none 0 0),(4,.pointer (some ⟨g6,0,none⟩)),(5,.slice LA k lc),(15,.slice A n cap),(16,.int .i64 ((n:Nat):Int)),(17,.int .i64 ((k:Nat):Int))])
  (fun⟨wr,k,kg,LA,lc,cs⟩=>wr)
  (fun⟨wr,k,kg,LA,lc,cs⟩=>(Ext w wr)∧(k≤n)∧(cs.length=k)∧(∀i,ln (cs.getD i 0)≤1048578+sl (zs.take k))∧(dotL (zs.take k) cs=gcdL (zs.take k))∧(ExtR (zs.take k).reverse cs)∧(g12≤wr.heap.size)∧(Lz none 8388608 w.heap.size wr g12 LA k lc cs)∧(Bk wr g1 27 [F0,S0])∧(Bk wr g6 27 [.bool kg.s,.slice kg.A kg.n kg.c])∧(Zr wr w.heap.size kg.s kg.A kg.n kg.c (gcdL (zs.take k))))
  (fun⟨wr,k,kg,LA,lc,cs⟩=>n-k)
  (⟨v13,0,⟨false,none,0,0⟩,(some ⟨g12,0,none⟩),n,[]⟩:World×Nat×ZC×Option Addr×Nat×List Int) ⟨hw3,Nat.zero_le _,rfl,(fun i=>Nat.zero_le _),rfl,rfl,hlbg12,lz15,(hb4.ext (e8.trans e16)),(hb9.ext e16),Zr.zero⟩ rfl ⟨rfl,rfl,rfl,rfl,rfl,rfl,rfl,trivial⟩ ?_
 rintro⟨wr,k,kg,LA,lc,cs⟩ ⟨hw1,hk,hcl,hB,hdot,hexr,hlb,hlz,b_2,b_4,zg⟩
 refine cw_re [(2,.pointer (some ⟨g1,0,none⟩)),(3,.slice none 0 0),(4,.pointer (some ⟨g6,0,none⟩)),(5,.slice LA k lc),(15,.slice A n cap),(16,.int .i64 ((n:Nat):Int)),(17,.int .i64 ((k:Nat):Int))] wr rfl ⟨rfl,rfl,rfl,rfl,rfl,rfl,rfl,trivial⟩ ?_
 have blk20:=hlz.block
 refine cw_seq ?_
 by_cases hkn:k<n
 · 
  refine cw_region (wl_cmp rfl rfl rfl true (cb_lt_t (a:=k) (b:=n) rfl rfl (by omega)) (by decide) (ne_ (cw_seq (cw_true rfl (cw_skip (eo_then (cw_seq (cw_block (sr ?_)))))))))
  obtain⟨pz21,sz21,Bz21,cz21,hpz21,ldz21,ez21⟩:=hl.at (i:=k) (by omega)
  refine wl_idx rfl rfl rfl elemI aggInt.size k rfl (by omega) pz21 hpz21 (by decide) (wl_load rfl rfl (ldz21 _ hw1 _ _ aggInt) (by decide) (wl_alloc rfl (z:= .agg #[F0,S0]) (vs:= [F0,S0]) (fun _=>by kernel_rfl) rfl (by decide) fun g22 v23 nb=>?_))
  have hb25:=nb.bk
  have ge26:w.heap.size≤g22:=by rw [←nb.at_];exact hw1.size
  have q27:g6<g22:=by rw [←nb.at_];exact b_4.lt
  have ne28:∀p,LA=some p→p.block≠g22:=fun p hp=>by have:=(hlz).block p hp;have:=nb.at_;omega
  have e24:=nb.ext
  clear nb
  have hw2:=hw1.trans e24
  refine so aggInt hb25 [.bool sz21,.slice Bz21 (ms.getD k 0) cz21] hw2 ge26 rfl rfl rfl rfl fun v29 hb31 u32 hw3=>(ne_ (sr (lo aggInt ((b_4.ext e24).updN u32 (by omega)) [.bool kg.s,.slice kg.A kg.n kg.c] rfl rfl rfl (lo aggInt hb31 [.bool sz21,.slice Bz21 (ms.getD k 0) cz21] rfl rfl rfl (wl_call rfl rfl (vs:= [.agg #[.bool kg.s,.slice kg.A kg.n kg.c],.agg #[.bool sz21,.slice Bz21 (ms.getD k 0) cz21]]) (by kernel_rfl) (by decide) (g_bezout_Ext hw3.size ((zg.ext e24).updT hb25 u32).zi (zg.le (Nat.le_trans (ln_gcdL hln k) (by decide))) (ez21.ext hw3) (Nat.le_trans (hmb k) (by decide))) ?_)))))
  rintro _ v34 ⟨u37,v38,p39,xr36,rfl,r36,e35⟩
  have L40:ln ((Int.gcd (gcdL (zs.take k)) (zs.getD k 0):Int))≤1048576:=Nat.le_trans (ln_gcd _ _) (Nat.max_le.2 ⟨Nat.le_trans (ln_gcdL hln k) (by decide),Nat.le_trans (Nat.le_trans ez21.ln (hmb k)) (by decide)⟩)
  have L41:ln (u37)≤1048577:=(p39.ln_u (ln_gcdL hln k) (Nat.le_trans ez21.ln (hmb k)))
  have L42:ln (v38)≤1048577:=(p39.ln_v (ln_gcdL hln k) (Nat.le_trans ez21.ln (hmb k)))
  refine ret_intro ?_
  have hw4:=hw3.trans e35
  obtain⟨_,_,_,rfl,⟨s44,A44,n44,c44,rfl,z44⟩,⟨s45,A45,n45,c45,rfl,z45⟩,⟨s46,A46,n46,c46,rfl,z46⟩⟩:=r36
  refine mv 1 rfl (pu (v:= .agg #[.bool s44,.slice A44 n44 c44]) rfl (by kernel_rfl) (pu (v:= .agg #[.bool s45,.slice A45 n45 c45]) rfl (by kernel_rfl) (pu (v:= .agg #[.bool s46,.slice A46 n46 c46]) rfl (by kernel_rfl) (wl_alloc rfl (z:= .agg #[F0,S0]) (vs:= [F0,S0]) (fun _=>by kernel_rfl) rfl (by decide) fun g47 v48 nb=>?_))))
  have hb50:=nb.bk
  have ge51:w.heap.size≤g47:=by rw [←nb.at_];exact hw4.size
  have q52:g22<g47:=by rw [←nb.at_];exact (hb31.ext e35).lt
  have ne53:∀p,LA=some p→p.block≠g47:=fun p hp=>by have:=((((hlz.ext e24).updT hb25 u32 ne28).ext e35)).block p hp;have:=nb.at_;omega
  have e49:=nb.ext
  clear nb
  have hw5:=hw4.trans e49
  refine wl_alloc rfl (z:= .agg #[F0,S0]) (vs:= [F0,S0]) (fun _=>by kernel_rfl) rfl (by decide) fun g54 v55 nb=>?_
  have hb57:=nb.bk
  have ge58:w.heap.size≤g54:=by rw [←nb.at_];exact hw5.size
  have q59:g47<g54:=by rw [←nb.at_];exact hb50.lt
  have ne60:∀p,LA=some p→p.block≠g54:=fun p hp=>by have:=((((hlz.ext e24).updT hb25 u32 ne28).ext (e35.trans e49))).block p hp;have:=nb.at_;omega
  have e56:=nb.ext
  clear nb
  have hw6:=hw5.trans e56
  refine wl_alloc rfl (z:= .agg #[F0,S0]) (vs:= [F0,S0]) (fun _=>by kernel_rfl) rfl (by decide) fun g61 v62 nb=>?_
  have hb64:=nb.bk
  have ge65:w.heap.size≤g61:=by rw [←nb.at_];exact hw6.size
  have q66:g54<g61:=by rw [←nb.at_];exact hb57.lt
  have ne67:∀p,LA=some p→p.block≠g61:=fun p hp=>by have:=((((hlz.ext e24).updT hb25 u32 ne28).ext (e35.trans (e49.trans e56)))).block p hp;have:=nb.at_;omega
  have e63:=nb.ext
  clear nb
  have hw7:=hw6.trans e63
  have hb69:=(hb50.ext (e56.trans e63))
  refine so aggInt hb69 [.bool s44,.slice A44 n44 c44] hw7 ge51 rfl rfl rfl rfl fun v68 hb70 u71 hw8=>?_
  have hb74:=((hb57.ext e63).updN u71 (by omega))
  refine so aggInt hb74 [.bool s45,.slice A45 n45 c45] hw8 ge58 rfl rfl rfl rfl fun v73 hb75 u76 hw9=>?_
  have hb79:=((hb64.updN u71 (by omega)).updN u76 (by omega))
  refine so aggInt hb79 [.bool s46,.slice A46 n46 c46] hw9 ge65 rfl rfl rfl rfl fun v78 hb80 u81 hw10=>(ne_ (cw_seq (sr (mv 1 rfl (pu (v:= .int .i64 ((k:Nat):Int)) rfl (by kernel_rfl) (mv 1 rfl (ne_ (cw_block ?_))))))))
  have hlu:=p39.ln_u2
  have hlz1:=hln k
  have hlv:ln v38≤1048578:=by have:=(p39.ln_v (N:=1048577) (Nat.le_trans (ln_gcdL hln k) (by decide)) (Nat.le_trans (hln k) (by decide)));exact this
  refine cw_loop (T:=World×Nat)
   (fun⟨wi,j⟩=> [(2,.pointer (some ⟨g1,0,none⟩)),(3,.slice none 0 0),(4,.pointer (some ⟨g6,0,none⟩)),(5,.slice LA k lc),(7,.pointer (some ⟨g22,0,none⟩)),(8,.pointer (some ⟨g47,0,none⟩)),(9,.pointer (some ⟨g54,0,none⟩)),(10,.pointer (some ⟨g61,0,none⟩)),(15,.slice A n cap),(16,.int .i64 ((n:Nat):Int)),(17,.int .i64 ((k:Nat):Int)),(29,.int .i64 ((k:Nat):Int)),(30,.int .i64 ((j:Nat):Int))])
   (fun⟨wi,j⟩=>wi)
   (fun⟨wi,j⟩=>(Ext w wi)∧(j≤k)∧(g12≤wi.heap.size)∧(Lz none 8388608 w.heap.size wi g12 LA k lc (mulTo cs u37 j))∧(Bk wi g1 27 [F0,S0])∧(Bk wi g6 27 [.bool kg.s,.slice kg.A kg.n kg.c])∧(Bk wi g22 27 [.bool sz21,.slice Bz21 (ms.getD k 0) cz21])∧(Bk wi g47 27 [.bool s44,.slice A44 n44 c44])∧(Bk wi g54 27 [.bool s45,.slice A45 n45 c45])∧(Bk wi g61 27 [.bool s46,.slice A46 n46 c46])∧(Zr wi w.heap.size kg.s kg.A kg.n kg.c (gcdL (zs.take k)))∧(Zr wi w.heap.size s44 A44 n44 c44 ((Int.gcd (gcdL (zs.take k)) (zs.getD k 0):Int)))∧(Zr wi w.heap.size s45 A45 n45 c45 (u37))∧(Zr wi w.heap.size s46 A46 n46 c46 (v38)))
   (fun⟨wi,j⟩=>k-j)
   (⟨v78,0⟩:World×Nat) ⟨hw10,Nat.zero_le _,(Nat.le_trans (Nat.le_trans (Nat.le_trans (Nat.le_trans (Nat.le_trans (Nat.le_trans (Nat.le_trans (Nat.le_trans (Nat.le_trans hlb e24.size) u32.by_.size) e35.size) e49.size) e56.size) e63.size) u71.by_.size) u76.by_.size) u81.by_.size),(by rw [mulTo_zero];exact ((((((hlz.ext e24).updT hb25 u32 ne28).ext (e35.trans (e49.trans (e56.trans e63)))).updT hb69 u71 ne53).updT hb74 u76 ne60).updT hb79 u81 ne67)),((((((b_2.ext e24).updN u32 (by omega)).ext (e35.trans (e49.trans (e56.trans e63)))).updN u71 (by omega)).updN u76 (by omega)).updN u81 (by omega)),((((((b_4.ext e24).updN u32 (by omega)).ext (e35.trans (e49.trans (e56.trans e63)))).updN u71 (by omega)).updN u76 (by omega)).updN u81 (by omega)),((((hb31.ext (e35.trans (e49.trans (e56.trans e63)))).updN u71 (by omega)).updN u76 (by omega)).updN u81 (by omega)),((hb70.updN u76 (by omega)).updN u81 (by omega)),(hb75.updN u81 (by omega)),hb80,((((((zg.ext e24).updT hb25 u32).ext (e35.trans (e49.trans (e56.trans e63)))).updT hb69 u71).updT hb74 u76).updT hb79 u81),((((z44.ext (e49.trans (e56.trans e63))).updT hb69 u71).updT hb74 u76).updT hb79 u81),((((z45.ext (e49.trans (e56.trans e63))).updT hb69 u71).updT hb74 u76).updT hb79 u81),((((z46.ext (e49.trans (e56.trans e63))).updT hb69 u71).updT hb74 u76).updT hb79 u81)⟩ rfl ⟨rfl,rfl,rfl,rfl,rfl,rfl,rfl,rfl,rfl,rfl,rfl,rfl,rfl,trivial⟩ ?_
  rintro⟨wi,j⟩ ⟨hw1,hj,hlb,hlz,b_2,b_4,b_7,b_8,b_9,b_10,zz_4,zz_8,zz_9,zz_10⟩
  refine cw_re [(2,.pointer (some ⟨g1,0,none⟩)),(3,.slice none 0 0),(4,.pointer (some ⟨g6,0,none⟩)),(5,.slice LA k lc),(7,.pointer (some ⟨g22,0,none⟩)),(8,.pointer (some ⟨g47,0,none⟩)),(9,.pointer (some ⟨g54,0,none⟩)),(10,.pointer (some ⟨g61,0,none⟩)),(15,.slice A n cap),(16,.int .i64 ((n:Nat):Int)),(17,.int .i64 ((k:Nat):Int)),(29,.int .i64 ((k:Nat):Int)),(30,.int .i64 ((j:Nat):Int))] wi rfl ⟨rfl,rfl,rfl,rfl,rfl,rfl,rfl,rfl,rfl,rfl,rfl,rfl,rfl,trivial⟩ ?_
  have blk83:=hlz.block
  refine cw_seq ?_
  by_cases hjk0:j<k
  · 
   refine cw_region (wl_cmp rfl rfl rfl true (cb_lt_t (a:=j) (b:=k) rfl rfl (by omega)) (by decide) (ne_ (cw_seq (cw_true rfl (cw_skip (eo_then (cw_seq (cw_block (sr (mv 2 rfl (ne_ ?_)))))))))))
   obtain⟨pz84,sz84,Bz84,nz84,cz84,hpz84,ldz84,hKz84,ez84⟩:=(hlz).at (i:=j) (by omega)
   have zz84:=ez84.zr
   have Lz84:ln ((mulTo cs u37 j).getD j 0)≤3145730:=(by rw [mulTo_get (by omega)];have:=hB j;have:=hsl k;omega)
   have L85:ln (((mulTo cs u37 j).getD j 0)*u37)≤4194307:=Nat.le_trans (ln_mul Lz84 L41) (by decide)
   refine cw_draw mix 9 [] [Is (.slice LA k lc),Is (.int .i64 ((j:Nat):Int)),Is (.slice LA k lc),Is (.int .i64 ((j:Nat):Int)),Is (.pointer (some pz84)),Is (.agg #[.bool sz84,.slice Bz84 nz84 cz84]),Is (.agg #[.bool s45,.slice A45 n45 c45]),ZR w.heap.size (((mulTo cs u37 j).getD j 0)*u37),Is (.pointer (some pz84))] [[],[],[],[],[2,3],[4],[],[5,6],[0,1]] [[],[],[],[],[2,3],[2,3,4],[],[2,3,4,5,6],[0,1,2,3,4,5,6,7],[0,1,2,3,4,5,6,7,8]] rfl
    (obs_cons rfl rfl (hob rfl rfl ?_) (obs_cons rfl rfl (hob rfl rfl ?_) (obs_cons rfl rfl (hob rfl rfl ?_) (obs_cons rfl rfl (hob rfl rfl ?_) (obs_cons rfl rfl (hob rfl rfl ?_) (obs_cons rfl rfl (hob rfl rfl ?_) (obs_cons rfl rfl (hob rfl rfl ?_) (obs_cons rfl rfl (hob rfl rfl ?_) (obs_cons rfl rfl (hob rfl rfl ?_) obs_nil))))))))) ?_
   · 
    exact fun _ _=>deps_nil (mv 1 rfl (pi_done rfl (Ext.refl _) rfl))
   · 
    exact fun _ _=>deps_nil (mv 1 rfl (pi_done rfl (Ext.refl _) rfl))
   · 
    exact fun _ _=>deps_nil (mv 1 rfl (pi_done rfl (Ext.refl _) rfl))
   · 
    exact fun _ _=>deps_nil (mv 1 rfl (pi_done rfl (Ext.refl _) rfl))
   · 
    exact fun _ _=>dk rfl rfl (dk rfl rfl (deps_nil (wl_idx rfl rfl rfl elemI aggInt.size j rfl (by omega) pz84 hpz84 (by decide) (pi_done rfl (Ext.refl _) rfl))))
   · 
    exact fun _ e108=>dk rfl rfl (deps_nil (wl_load rfl rfl (ldz84 _ e108 _ _ aggInt) (by decide) (pi_done rfl (Ext.refl _) rfl)))
   · 
    exact fun _ e115=>deps_nil (lo aggInt (b_9.ext e115) [.bool s45,.slice A45 n45 c45] rfl rfl rfl (pi_done rfl (Ext.refl _) rfl))
   · 
    intro v116 e117
    have hw2:=hw1.trans e117
    refine dk rfl rfl (dk rfl rfl (deps_nil ?_))
    have L128:ln (((mulTo cs u37 j).getD j 0)*u37)≤4194307:=Nat.le_trans (ln_mul Lz84 L41) (by decide)
    refine cl (vs:= [.agg #[.bool sz84,.slice Bz84 nz84 cz84],.agg #[.bool s45,.slice A45 n45 c45]]) hw2 (g_zint_Mul hw2.size (zz84.ext e117).zi (zz84.le (lx_ Lz84 rfl)) (zz_9.ext e117).zi (zz_9.le (lx_ L41 rfl))) rfl (by kernel_rfl) fun xr131 v129 r131 e130 hw3=>?_
    obtain⟨s132,A132,n132,c132,rfl,z132⟩:=r131
    exact pi_done rfl e130 ⟨_,_,_,_,rfl,z132⟩
   · 
    exact fun _ _=>dk rfl rfl (dk rfl rfl (deps_nil (wl_idx rfl rfl rfl elemI aggInt.size j rfl (by omega) pz84 hpz84 (by decide) (pi_done rfl (Ext.refl _) rfl))))
   · 
    intro v145 e146
    have hw2:=hw1.trans e146
    refine dk rfl rfl (dk rfl rfl (dk rfl rfl (dk rfl rfl (dk rfl rfl (dk rfl rfl (dk rfl rfl (deps_cons rfl rfl fun x182 y183 h184 e185 f186=>?_)))))))
    obtain⟨s187,A187,n187,c187,rfl,z187⟩:=h184
    have z187:=z187.ext f186
    refine dk rfl rfl (deps_nil ?_)
    have lt198:=(hlz.ext e146)
    obtain⟨us196,own197⟩:=lt198.own
    refine wl_setI (e:=⟨s187,A187,n187,c187⟩) (z:=((mulTo cs u37 j).getD j 0)*u37) rfl rfl rfl hpz84 (by omega) lt198 (Or.inl z187) (z187.le (lx_ L85 rfl)) fun v193 lz194 uo195=>?_
    have hw3:=uo195.ext hw2 (fun p hp=>by have:=blk83 p hp;omega)
    have hlblz194:g12≤v193.heap.size:=Nat.le_trans (Nat.le_trans hlb e146.size) uo195.size
    refine wl_nil (eo_np (eo_block_normal (eo_then (cw_region (wl_ar rfl rfl rfl ((j+1:Nat):Int) (ai_add (a:=j) (b:=1) rfl rfl (by omega)) (by decide) (mv 1 rfl (wl_nil (eo_round (⟨v193,j+1⟩:World×Nat) ⟨hw3,(by omega),hlblz194,(by rw [←mulTo_succ (by omega)];exact lz194),((b_2.ext e146).updO uo195 (fun p hp=>by have:=blk83 p hp;omega)),((b_4.ext e146).updO uo195 (fun p hp=>by have:=blk83 p hp;omega)),((b_7.ext e146).updO uo195 ne28),((b_8.ext e146).updO uo195 ne53),((b_9.ext e146).updO uo195 ne60),((b_10.ext e146).updO uo195 ne67),((zz_4.ext e146).updOT own197 uo195),((zz_8.ext e146).updOT own197 uo195),((zz_9.ext e146).updOT own197 uo195),((zz_10.ext e146).updOT own197 uo195)⟩ (show k-(j+1)<k-j by omega) rfl ⟨rfl,rfl,rfl,rfl,rfl,rfl,rfl,rfl,rfl,rfl,rfl,rfl,rfl,trivial⟩))))))))
  · 
   refine cw_region (wl_cmp rfl rfl rfl false (cb_lt_f (a:=j) (b:=k) rfl rfl (by omega)) (by decide) (ne_ (cw_seq (cw_false rfl (cw_exit (eo_thenX (eo_loopX (eo_block_here (eo_then (sr (mv 1 rfl (lo aggInt b_10 [.bool s46,.slice A46 n46 c46] rfl rfl rfl (wl_bslice rfl rfl (by decide) (k:=1) (e:=27) [.bool s46,.slice A46 n46 c46] (fun _=>by kernel_rfl) fun g199 v200 nb=>?_)))))))))))))
   have hb202:=nb.bk
   have ge203:w.heap.size≤g199:=by rw [←nb.at_];exact hw1.size
   have q204:g61<g199:=by rw [←nb.at_];exact b_10.lt
   have ne205:∀p,LA=some p→p.block≠g199:=fun p hp=>by have:=(hlz).block p hp;have:=nb.at_;omega
   have e201:=nb.ext
   clear nb
   have hw2:=hw1.trans e201
   have lt211:=(hlz.ext e201)
   obtain⟨us209,own210⟩:=lt211.own
   refine wl_appI (e:=⟨s46,A46,n46,c46⟩) (z:=v38) rfl rfl rfl lt211 (Nat.le_trans hlb e201.size) hb202 (Or.inl (zz_10.ext e201)) (zz_10.le (lx_ L42 rfl)) (by omega) (by decide) fun A212 c213 v206 lz207 uo208 kp214=>?_
   have hw3:=uo208.ext hw2 (fun p hp=>by have:=blk83 p hp;omega)
   have hlblz207:g12≤v206.heap.size:=Nat.le_trans (Nat.le_trans hlb e201.size) uo208.size
   have ne215:=kept_ne kp214 (b_7.ext e201).lt ne28
   have ne216:=kept_ne kp214 (b_8.ext e201).lt ne53
   have ne217:=kept_ne kp214 (b_9.ext e201).lt ne60
   have ne218:=kept_ne kp214 (b_10.ext e201).lt ne67
   have ne219:=kept_ne kp214 hb202.lt ne205
   have blk220:=lz207.block
   refine mv 1 rfl (ne_ (cw_region (lo aggInt ((b_8.ext e201).updO uo208 ne53) [.bool s44,.slice A44 n44 c44] rfl rfl rfl ?_)))
   have hb222:=((b_4.ext e201).updO uo208 (fun p hp=>by have:=blk83 p hp;omega))
   refine so aggInt hb222 [.bool s44,.slice A44 n44 c44] hw3 ge10 rfl rfl rfl rfl fun v221 hb223 u224 hw4=>(wl_nil (eo_block_normal (eo_then (cw_region (wl_ar rfl rfl rfl ((k+1:Nat):Int) (ai_add (a:=k) (b:=1) rfl rfl (by omega)) (by decide) (mv 1 rfl (wl_nil (eo_round (⟨v221,k+1,⟨s44,A44,n44,c44⟩,A212,c213,_⟩:World×Nat×ZC×Option Addr×Nat×List Int) ⟨hw4,(by omega),(by rw [List.length_append,mulTo_len,hcl];rfl),(ext_bound (show j=k by omega) (by rw [hl.len];omega) hcl hB p39 hlv),(ext_step (show j=k by omega) (by rw [hl.len];omega) hcl hdot p39),(ext_exr (show j=k by omega) (by rw [hl.len];omega) hcl hexr p39),(Nat.le_trans hlblz207 u224.by_.size),(lz207.updT hb222 u224 (fun p hp=>by have:=blk220 p hp;omega)),(((b_2.ext e201).updO uo208 (fun p hp=>by have:=blk83 p hp;omega)).updN u224 (by omega)),hb223,((((zz_8.ext e201).updOT own210 uo208).updT hb222 u224)).cast (gcdL_succ (by rw [hl.len];omega))⟩ (show n-(k+1)<n-k by omega) rfl ⟨rfl,rfl,rfl,rfl,rfl,rfl,rfl,trivial⟩))))))))
 · 
  refine cw_region (wl_cmp rfl rfl rfl false (cb_lt_f (a:=k) (b:=n) rfl rfl (by omega)) (by decide) (ne_ (cw_seq (cw_false rfl (cw_exit (eo_thenX (eo_loopX (eo_block_here (eo_then (sr (lo aggInt b_4 [.bool kg.s,.slice kg.A kg.n kg.c] rfl rfl rfl (mv 1 rfl ?_))))))))))))
  have hb227:=b_2
  refine so aggInt hb227 [.bool kg.s,.slice kg.A kg.n kg.c] hw1 ge5 rfl rfl rfl rfl fun v226 hb228 u229 hw2=>(mv 1 rfl (ne_ (cw_ret (eo_ret [.agg #[.bool kg.s,.slice kg.A kg.n kg.c],.slice LA k lc] rfl ⟨⟨_,rfl,load_agg aggInt hb228 [.bool kg.s,.slice kg.A kg.n kg.c] rfl (bq rfl) rfl⟩,rfl,trivial⟩ ?_))))
  have hkn2:k=n:=by omega
  exact⟨cs,⟨by rw [←zl_full hl,←hkn2];exact hexr,by rw [hcl,hkn2],by rw [←zl_full hl,←hkn2];exact hdot,fun i=>Nat.le_trans (hB i) (by have:=hsl k;omega)⟩,_,rfl,⟨_,_,rfl,⟨_,_,_,_,rfl,(((zg.updT hb227 u229)).cast (show gcdL (zs.take k)=gcdL zs by rw [hkn2,zl_full hl])).mono hb⟩,⟨_,_,by rw [hkn2],by rw [←hkn2];exact ((hlz.updT hb227 u229 (fun p hp=>by have:=blk20 p hp;omega))).mono (by decide) hb (by omega)⟩⟩,hw2⟩
theorem emod_eq_of_dvd {a b l:Int}(h:l∣a-b):a%l=b%l:=by
 obtain⟨k,hk⟩:=h
 have e:a=b+l*k:=by omega
 rw [e,Int.add_mul_emod_self_left]
theorem ln_lcmC (x y:Int):ln (Int.lcm x y:Int)≤ln x+ln y:=by
 refine Nat.le_trans (ln_mono (y:=x*y) ?_) (ln_mul (Nat.le_refl _) (Nat.le_refl _))
 rw [Int.natAbs_natCast]
 by_cases h:x*y=0
 ·rcases Int.mul_eq_zero.1 h with h | h <;> subst h <;> simp
 ·refine Nat.le_of_dvd (by omega) ?_
  rw [Int.natAbs_mul,←Int.gcd_mul_lcm x y]
  exact Nat.dvd_mul_left _ _
theorem gcd_ne_l {m n:Int}(h:m≠0):(Int.gcd m n:Int)≠0:=by have:=Int.gcd_pos_of_ne_zero_left n h;omega
theorem crt_dvd {x y m n s:Int}(d1:m∣x-s) (d2:n∣y-s):(Int.gcd m n:Int)∣y-x:=by
 have h1:(Int.gcd m n:Int)∣x-s:=Int.dvd_trans (Int.gcd_dvd_left m n) d1
 have h2:(Int.gcd m n:Int)∣y-s:=Int.dvd_trans (Int.gcd_dvd_right m n) d2
 have e:y-x=(y-s)-(x-s):=by omega
 rw [e];exact Int.dvd_sub h2 h1
theorem mod_of_dvd {a b:Int}(h:b∣a):a.natAbs%b.natAbs=0:=Nat.mod_eq_zero_of_dvd (Int.natAbs_dvd_natAbs.2 h)
theorem mod_of_not {a b:Int}(h:¬b∣a):a.natAbs%b.natAbs≠0:=fun e=>h (Int.natAbs_dvd_natAbs.1 (Nat.dvd_of_mod_eq_zero e))
theorem crt_eq {x y m n s u v:Int}(h:Bez m n u v) (hm:m≠0) (d1:m∣x-s) (d2:n∣y-s):(x+m*((y-x).tdiv (Int.gcd m n:Int)*u))%(Int.lcm m n:Int)=s%(Int.lcm m n:Int):=by
 obtain⟨t,ht⟩:=crt_dvd d1 d2
 have e1:(y-x).tdiv (Int.gcd m n:Int)=t:=by rw [ht];exact Int.mul_tdiv_cancel_left _ (gcd_ne_l hm)
 rw [e1]
 refine emod_eq_of_dvd ?_
 refine Int.coe_lcm_dvd ?_ ?_
 ·have e:x+m*(t*u)-s=(x-s)+m*(t*u):=by omega
  rw [e];exact Int.dvd_add d1 (Int.dvd_mul_right _ _)
 ·have e2:=h.eq
  have e:x+m*(t*u)-s=(y-s)-n*(v*t):=by
   have e3:m*(t*u)+n*(v*t)=y-x:=by rw [ht,←e2];grind
   omega
  rw [e];exact Int.dvd_sub d2 (Int.dvd_mul_right _ _)
theorem lcm_ne {m n:Int}(hm:m≠0) (hn:n≠0):(Int.lcm m n:Int)≠0:=by have:=Int.lcm_pos hm hn;omega
theorem crt_ex {x y m n:Int}(hm:m≠0){u v:Int}(h:Bez m n u v) (hd:(Int.gcd m n:Int)∣y-x):∃s,m∣x-s∧n∣y-s:=by
 obtain⟨t,ht⟩:=hd
 have e2:=h.eq
 refine⟨x+m*(t*u),⟨-(t*u),by rw [Int.mul_neg];omega⟩,⟨v*t,?_⟩⟩
 have e3:m*(t*u)+n*(v*t)=y-x:=by rw [ht,←e2];grind
 omega
set_option maxHeartbeats 4000000 in
theorem g_bezout_Crt_zeroI {w:World}{sa:Bool}{Aa:Option Addr}{na ca:Nat}{x:Int}{sb:Bool}{Ab:Option Addr}{nb cb:Nat}{m:Int}{sf:Bool}{Af:Option Addr}{nf cf:Nat}{y:Int}{sd:Bool}{Ad:Option Addr}{nd cd:Nat}{n:Int}(hx:Zi w sa Aa na ca x) (la:na≤67108864) (hm:Zi w sb Ab nb cb m) (lb:nb≤67108864) (hy:Zi w sf Af nf cf y) (lf:nf≤67108864) (hn:Zi w sd Ad nd cd n) (ld:nd≤67108864) (h0:m=0∨n=0):
    Calls Tryz.prog 50 #[.agg #[.bool sa,.slice Aa na ca],.agg #[.bool sb,.slice Ab nb cb],.agg #[.bool sf,.slice Af nf cf],.agg #[.bool sd,.slice Ad nd cd]] w (Gv w (T3 (ZR w.heap.size (0)) (ZR w.heap.size (0)) (Is (.int .i64 4)))):=by
 have Lx:ln x≤67108864:=Nat.le_trans hx.ln la
 have Lm:ln m≤67108864:=Nat.le_trans hm.ln lb
 have Ly:ln y≤67108864:=Nat.le_trans hy.ln lf
 have Ln:ln n≤67108864:=Nat.le_trans hn.ln ld
 refine sx_enter Tryz.func50 rfl (n:=62) rfl (bq rfl) (args:= [.agg #[.bool sa,.slice Aa na ca],.agg #[.bool sb,.slice Ab nb cb],.agg #[.bool sf,.slice Af nf cf],.agg #[.bool sd,.slice Ad nd cd]]) (cw_keep [(0,.agg #[.bool sa,.slice Aa na ca]),(1,.agg #[.bool sb,.slice Ab nb cb]),(2,.agg #[.bool sf,.slice Af nf cf]),(3,.agg #[.bool sd,.slice Ad nd cd])] ⟨rfl,rfl,rfl,rfl,trivial⟩ (sr (bx [.bool sa,.slice Aa na ca] (Ext.refl w) rfl rfl rfl fun g1 v2 hb4 ge5 e3 hw1=>(bxq [.bool sb,.slice Ab nb cb] hw1 hb4.lt rfl rfl rfl fun g6 v7 hb9 ge10 q11 e8 hw2=>(bxq [.bool sf,.slice Af nf cf] hw2 hb9.lt rfl rfl rfl fun g12 v13 hb15 ge16 q17 e14 hw3=>(bxq [.bool sd,.slice Ad nd cd] hw3 hb15.lt rfl rfl rfl fun g18 v19 hb21 ge22 q23 e20 hw4=>(alq [F0,S0] hw4 hb21.lt (fun _=>by kernel_rfl) rfl fun g24 v25 hb27 ge28 q29 e26 hw5=>(alq [F0,S0] hw5 hb27.lt (fun _=>by kernel_rfl) rfl fun g30 v31 hb33 ge34 q35 e32 hw6=>(mv 1 rfl (ne_ (cw_seq (cw_seq ?_))))))))))))
 by_cases hm1:m=0
 · 
  refine cw_region (lo aggInt (hb9.ext (e14.trans (e20.trans (e26.trans e32)))) [.bool sb,.slice Ab nb cb] rfl rfl rfl (cl (vs:= [.agg #[.bool sb,.slice Ab nb cb]]) hw6 (g_zint_Sign (hm.ext hw6) (lx_ lb rfl)) rfl (by kernel_rfl) fun xr38 v36 r38 e37 hw7=>?_))
  obtain rfl:=r38
  refine wl_cmp rfl rfl rfl true (scmp_eq_t hm1) (by decide) (mv 4 rfl (pu (v:= .bool true) rfl (by kernel_rfl) (ne_ (cw_true rfl (sr (pu (v:= .agg #[F0,S0]) rfl (by kernel_rfl) (pu (v:= .agg #[F0,S0]) rfl (by kernel_rfl) ?_)))))))
  have hb40:=(hb27.ext (e32.trans e37))
  refine so aggInt hb40 [F0,S0] hw7 ge28 rfl rfl rfl rfl fun v39 hb41 u42 hw8=>?_
  have hb45:=((hb33.ext e37).updN u42 (by omega))
  refine so aggInt hb45 [F0,S0] hw8 ge34 rfl rfl rfl rfl fun v44 hb46 u47 hw9=>(mv 1 rfl (ne_ (cw_ret (eo_thenR (eo_ret [.agg #[F0,S0],.agg #[F0,S0],.int .i64 4] rfl ⟨⟨_,rfl,load_agg aggInt (hb41.updN u47 (by omega)) [F0,S0] rfl (bq rfl) rfl⟩,⟨_,rfl,load_agg aggInt hb46 [F0,S0] rfl (bq rfl) rfl⟩,rfl,trivial⟩ ?_)))))
  exact⟨_,rfl,⟨_,_,_,rfl,⟨_,_,_,_,rfl,(((Zr.zero (w:=v36) (base:=w.heap.size)).updT hb40 u42).updT hb45 u47)⟩,⟨_,_,_,_,rfl,(((Zr.zero (w:=v36) (base:=w.heap.size)).updT hb40 u42).updT hb45 u47)⟩,rfl⟩,hw9⟩
 · 
  refine cw_region (lo aggInt (hb9.ext (e14.trans (e20.trans (e26.trans e32)))) [.bool sb,.slice Ab nb cb] rfl rfl rfl (cl (vs:= [.agg #[.bool sb,.slice Ab nb cb]]) hw6 (g_zint_Sign (hm.ext hw6) (lx_ lb rfl)) rfl (by kernel_rfl) fun xr51 v49 r51 e50 hw7=>?_))
  obtain rfl:=r51
  refine wl_cmp rfl rfl rfl false (scmp_eq_f hm1) (by decide) (mv 1 rfl (lo aggInt (hb21.ext (e26.trans (e32.trans e50))) [.bool sd,.slice Ad nd cd] rfl rfl rfl (cl (vs:= [.agg #[.bool sd,.slice Ad nd cd]]) hw7 (g_zint_Sign (hn.ext hw7) (lx_ ld rfl)) rfl (by kernel_rfl) fun xr54 v52 r54 e53 hw8=>?_)))
  obtain rfl:=r54
  refine wl_cmp rfl rfl rfl true (scmp_eq_t (by omega)) (by decide) (pu (v:= .bool true) rfl (by kernel_rfl) (ne_ (cw_true rfl (sr (pu (v:= .agg #[F0,S0]) rfl (by kernel_rfl) (pu (v:= .agg #[F0,S0]) rfl (by kernel_rfl) ?_))))))
  have hb56:=(hb27.ext (e32.trans (e50.trans e53)))
  refine so aggInt hb56 [F0,S0] hw8 ge28 rfl rfl rfl rfl fun v55 hb57 u58 hw9=>?_
  have hb61:=((hb33.ext (e50.trans e53)).updN u58 (by omega))
  refine so aggInt hb61 [F0,S0] hw9 ge34 rfl rfl rfl rfl fun v60 hb62 u63 hw10=>(mv 1 rfl (ne_ (cw_ret (eo_thenR (eo_ret [.agg #[F0,S0],.agg #[F0,S0],.int .i64 4] rfl ⟨⟨_,rfl,load_agg aggInt (hb57.updN u63 (by omega)) [F0,S0] rfl (bq rfl) rfl⟩,⟨_,rfl,load_agg aggInt hb62 [F0,S0] rfl (bq rfl) rfl⟩,rfl,trivial⟩ ?_)))))
  exact⟨_,rfl,⟨_,_,_,rfl,⟨_,_,_,_,rfl,(((Zr.zero (w:=v52) (base:=w.heap.size)).updT hb56 u58).updT hb61 u63)⟩,⟨_,_,_,_,rfl,(((Zr.zero (w:=v52) (base:=w.heap.size)).updT hb56 u58).updT hb61 u63)⟩,rfl⟩,hw10⟩
theorem g_bezout_Crt_zero {w:World}{sa:Bool}{Aa:Option Addr}{na ca:Nat}{x:Int}{sb:Bool}{Ab:Option Addr}{nb cb:Nat}{m:Int}{sf:Bool}{Af:Option Addr}{nf cf:Nat}{y:Int}{sd:Bool}{Ad:Option Addr}{nd cd:Nat}{n:Int}{b:Nat}(hb:b≤w.heap.size) (hx:Zi w sa Aa na ca x) (la:na≤67108864) (hm:Zi w sb Ab nb cb m) (lb:nb≤67108864) (hy:Zi w sf Af nf cf y) (lf:nf≤67108864) (hn:Zi w sd Ad nd cd n) (ld:nd≤67108864) (h0:m=0∨n=0):
  Calls Tryz.prog 50 #[.agg #[.bool sa,.slice Aa na ca],.agg #[.bool sb,.slice Ab nb cb],.agg #[.bool sf,.slice Af nf cf],.agg #[.bool sd,.slice Ad nd cd]] w (Gv w (T3 (ZR b (0)) (ZR b (0)) (Is (.int .i64 4)))):=(g_bezout_Crt_zeroI hx la hm lb hy lf hn ld h0).mono (Gv.imp (T3.imp (ZR.imp hb) (ZR.imp hb) Is.imp))
set_option maxHeartbeats 4000000 in
theorem g_bezout_Crt_noneI {w:World}{sa:Bool}{Aa:Option Addr}{na ca:Nat}{x:Int}{sb:Bool}{Ab:Option Addr}{nb cb:Nat}{m:Int}{sf:Bool}{Af:Option Addr}{nf cf:Nat}{y:Int}{sd:Bool}{Ad:Option Addr}{nd cd:Nat}{n:Int}(hx:Zi w sa Aa na ca x) (la:na≤67108864) (hm:Zi w sb Ab nb cb m) (lb:nb≤67108864) (hy:Zi w sf Af nf cf y) (lf:nf≤67108864) (hn:Zi w sd Ad nd cd n) (ld:nd≤67108864) (hm0:m≠0) (hn0:n≠0) (hd:¬(Int.gcd m n:Int)∣y-x):
    Calls Tryz.prog 50 #[.agg #[.bool sa,.slice Aa na ca],.agg #[.bool sb,.slice Ab nb cb],.agg #[.bool sf,.slice Af nf cf],.agg #[.bool sd,.slice Ad nd cd]] w (Gv w (T3 (ZR w.heap.size (0)) (ZR w.heap.size (0)) (Is (.int .i64 6)))):=by
 have Lx:ln x≤67108864:=Nat.le_trans hx.ln la
 have Lm:ln m≤67108864:=Nat.le_trans hm.ln lb
 have Ly:ln y≤67108864:=Nat.le_trans hy.ln lf
 have Ln:ln n≤67108864:=Nat.le_trans hn.ln ld
 refine sx_enter Tryz.func50 rfl (n:=62) rfl (bq rfl) (args:= [.agg #[.bool sa,.slice Aa na ca],.agg #[.bool sb,.slice Ab nb cb],.agg #[.bool sf,.slice Af nf cf],.agg #[.bool sd,.slice Ad nd cd]]) (cw_keep [(0,.agg #[.bool sa,.slice Aa na ca]),(1,.agg #[.bool sb,.slice Ab nb cb]),(2,.agg #[.bool sf,.slice Af nf cf]),(3,.agg #[.bool sd,.slice Ad nd cd])] ⟨rfl,rfl,rfl,rfl,trivial⟩ (sr (bx [.bool sa,.slice Aa na ca] (Ext.refl w) rfl rfl rfl fun g1 v2 hb4 ge5 e3 hw1=>(bxq [.bool sb,.slice Ab nb cb] hw1 hb4.lt rfl rfl rfl fun g6 v7 hb9 ge10 q11 e8 hw2=>(bxq [.bool sf,.slice Af nf cf] hw2 hb9.lt rfl rfl rfl fun g12 v13 hb15 ge16 q17 e14 hw3=>(bxq [.bool sd,.slice Ad nd cd] hw3 hb15.lt rfl rfl rfl fun g18 v19 hb21 ge22 q23 e20 hw4=>(alq [F0,S0] hw4 hb21.lt (fun _=>by kernel_rfl) rfl fun g24 v25 hb27 ge28 q29 e26 hw5=>(alq [F0,S0] hw5 hb27.lt (fun _=>by kernel_rfl) rfl fun g30 v31 hb33 ge34 q35 e32 hw6=>(mv 1 rfl (ne_ (cw_seq (sr (lo aggInt (hb9.ext (e14.trans (e20.trans (e26.trans e32)))) [.bool sb,.slice Ab nb cb] rfl rfl rfl ?_)))))))))))))
 refine cl (vs:= [.agg #[.bool sb,.slice Ab nb cb]]) hw6 (g_zint_Sign (hm.ext hw6) (lx_ lb rfl)) rfl (by kernel_rfl) fun xr38 v36 r38 e37 hw7=>?_
 obtain rfl:=r38
 refine wl_cmp rfl rfl rfl false (scmp_eq_f hm0) (by decide) (mv 1 rfl (lo aggInt (hb21.ext (e26.trans (e32.trans e37))) [.bool sd,.slice Ad nd cd] rfl rfl rfl (cl (vs:= [.agg #[.bool sd,.slice Ad nd cd]]) hw7 (g_zint_Sign (hn.ext hw7) (lx_ ld rfl)) rfl (by kernel_rfl) fun xr41 v39 r41 e40 hw8=>?_)))
 obtain rfl:=r41
 refine wl_cmp rfl rfl rfl false (scmp_eq_f hn0) (by decide) (pu (v:= .bool false) rfl (by kernel_rfl) (ne_ (cw_false rfl (cw_skip (eo_then (sr (lo aggInt (hb9.ext (e14.trans (e20.trans (e26.trans (e32.trans (e37.trans e40)))))) [.bool sb,.slice Ab nb cb] rfl rfl rfl (lo aggInt (hb21.ext (e26.trans (e32.trans (e37.trans e40)))) [.bool sd,.slice Ad nd cd] rfl rfl rfl (wl_call rfl rfl (vs:= [.agg #[.bool sb,.slice Ab nb cb],.agg #[.bool sd,.slice Ad nd cd]]) (by kernel_rfl) (by decide) (g_bezout_Ext hw8.size (hm.ext hw8) (lx_ lb rfl) (hn.ext hw8) (lx_ ld rfl)) ?_)))))))))
 rintro _ v42 ⟨u45,v46,p47,xr44,rfl,r44,e43⟩
 have L48:ln ((Int.gcd m n:Int))≤67108864:=Nat.le_trans (ln_gcd _ _) (Nat.max_le.2 ⟨Nat.le_trans Lm (by decide),Nat.le_trans Ln (by decide)⟩)
 have L49:ln (u45)≤67108865:=(p47.ln_u Lm Ln)
 have L50:ln (v46)≤67108865:=(p47.ln_v Lm Ln)
 refine ret_intro ?_
 have hw9:=hw8.trans e43
 obtain⟨_,_,_,rfl,⟨s52,A52,n52,c52,rfl,z52⟩,⟨s53,A53,n53,c53,rfl,z53⟩,⟨s54,A54,n54,c54,rfl,z54⟩⟩:=r44
 refine mv 1 rfl (pu (v:= .agg #[.bool s52,.slice A52 n52 c52]) rfl (by kernel_rfl) (pu (v:= .agg #[.bool s53,.slice A53 n53 c53]) rfl (by kernel_rfl) (pu (v:= .agg #[.bool s54,.slice A54 n54 c54]) rfl (by kernel_rfl) (alq [F0,S0] hw9 (hb33.ext (e37.trans (e40.trans e43))).lt (fun _=>by kernel_rfl) rfl fun g55 v56 hb58 ge59 q60 e57 hw10=>(alq [F0,S0] hw10 hb58.lt (fun _=>by kernel_rfl) rfl fun g61 v62 hb64 ge65 q66 e63 hw11=>(alq [F0,S0] hw11 hb64.lt (fun _=>by kernel_rfl) rfl fun g67 v68 hb70 ge71 q72 e69 hw12=>?_))))))
 have hb74:=(hb58.ext (e63.trans e69))
 refine so aggInt hb74 [.bool s52,.slice A52 n52 c52] hw12 ge59 rfl rfl rfl rfl fun v73 hb75 u76 hw13=>?_
 have hb79:=((hb64.ext e69).updN u76 (by omega))
 refine so aggInt hb79 [.bool s53,.slice A53 n53 c53] hw13 ge65 rfl rfl rfl rfl fun v78 hb80 u81 hw14=>?_
 have hb84:=((hb70.updN u76 (by omega)).updN u81 (by omega))
 refine so aggInt hb84 [.bool s54,.slice A54 n54 c54] hw14 ge71 rfl rfl rfl rfl fun v83 hb85 u86 hw15=>(ne_ (cw_seq ?_))
 have L88:ln (y-x)≤67108865:=Nat.le_trans (ln_sub Ly Lx) (by decide)
 refine cw_draw mix 9 [6,7] [Is (.agg #[.bool sf,.slice Af nf cf]),Is (.agg #[.bool sa,.slice Aa na ca]),ZR w.heap.size (y-x),Is (.agg #[.bool s52,.slice A52 n52 c52]),T2 (ZR w.heap.size (0)) (Is (.int .i64 8)),T2 (ZR w.heap.size (0)) (Is (.int .i64 8)),ZR w.heap.size (0),Is (.int .i64 8),PR v83.heap.size 27 [F0,S0]] [[],[],[0,1],[],[2,3],[4],[5],[5],[]] [[],[],[0,1],[],[0,1,2,3],[0,1,2,3,4],[0,1,2,3,4,5],[0,1,2,3,4,5],[],[0,1,2,3,4,5,6,8],[0,1,2,3,4,5,6,7,8,9]] rfl
  (obs_cons rfl rfl (hob rfl rfl ?_) (obs_cons rfl rfl (hob rfl rfl ?_) (obs_cons rfl rfl (hob rfl rfl ?_) (obs_cons rfl rfl (hob rfl rfl ?_) (obs_cons rfl rfl (hob rfl rfl ?_) (obs_cons rfl rfl (hob rfl rfl ?_) (obs_float rfl rfl (fob rfl ?_) (obs_float rfl rfl (fob rfl ?_) (obs_cons rfl rfl (hob rfl rfl ?_) obs_nil))))))))) ?_
 · 
  exact fun _ e96=>deps_nil (lo aggInt (((((hb15.ext (e20.trans (e26.trans (e32.trans (e37.trans (e40.trans (e43.trans (e57.trans (e63.trans e69))))))))).updN u76 (by omega)).updN u81 (by omega)).updN u86 (by omega)).ext e96) [.bool sf,.slice Af nf cf] rfl rfl rfl (pi_done rfl (Ext.refl _) rfl))
 · 
  exact fun _ e98=>deps_nil (lo aggInt (((((hb4.ext (e8.trans (e14.trans (e20.trans (e26.trans (e32.trans (e37.trans (e40.trans (e43.trans (e57.trans (e63.trans e69))))))))))).updN u76 (by omega)).updN u81 (by omega)).updN u86 (by omega)).ext e98) [.bool sa,.slice Aa na ca] rfl rfl rfl (pi_done rfl (Ext.refl _) rfl))
 · 
  intro v99 e100
  have hw16:=hw15.trans e100
  refine dk rfl rfl (dk rfl rfl (deps_nil ?_))
  have L111:ln (y-x)≤67108865:=Nat.le_trans (ln_sub Ly Lx) (by decide)
  refine cl (vs:= [.agg #[.bool sf,.slice Af nf cf],.agg #[.bool sa,.slice Aa na ca]]) hw16 (g_zint_Sub hw16.size (hy.ext hw16) (lx_ lf rfl) (hx.ext hw16) (lx_ la rfl)) rfl (by kernel_rfl) fun xr114 v112 r114 e113 hw17=>?_
  obtain⟨s115,A115,n115,c115,rfl,z115⟩:=r114
  exact pi_done rfl e113 ⟨_,_,_,_,rfl,z115⟩
 · 
  exact fun _ e117=>deps_nil (lo aggInt (((hb75.updN u81 (by omega)).updN u86 (by omega)).ext e117) [.bool s52,.slice A52 n52 c52] rfl rfl rfl (pi_done rfl (Ext.refl _) rfl))
 · 
  intro v118 e119
  have hw16:=hw15.trans e119
  refine deps_cons rfl rfl fun x120 y121 h122 e123 f124=>?_
  obtain⟨s125,A125,n125,c125,rfl,z125⟩:=h122
  have z125:=z125.ext f124
  refine dk rfl rfl (deps_nil (cl (vs:= [.agg #[.bool s125,.slice A125 n125 c125],.agg #[.bool s52,.slice A52 n52 c52]]) hw16 (g_zint_Exact_not hw16.size z125.zi (z125.le (lx_ L88 rfl)) (((((z52.ext (e57.trans (e63.trans e69))).updT hb74 u76).updT hb79 u81).updT hb84 u86).ext e119).zi (z52.le (lx_ L48 rfl)) (gcd_ne_l hm0) (mod_of_not hd)) rfl (by kernel_rfl) fun xr133 v131 r133 e132 hw17=>?_))
  obtain⟨_,_,rfl,⟨s135,A135,n135,c135,rfl,z135⟩,rfl⟩:=r133
  exact pi_done rfl e132 ⟨_,_,rfl,⟨_,_,_,_,rfl,z135⟩,rfl⟩
 · 
  intro v136 e137
  refine deps_cons rfl rfl fun x138 y139 h140 e141 f142=>?_
  obtain⟨_,_,rfl,⟨s144,A144,n144,c144,rfl,z144⟩,rfl⟩:=h140
  have z144:=z144.ext f142
  refine deps_nil (mv 1 rfl ?_)
  exact pi_done rfl (Ext.refl _) ⟨_,_,rfl,⟨_,_,_,_,rfl,z144⟩,rfl⟩
 · 
  intro v145 e146
  refine deps_cons rfl rfl fun x147 y148 h149 e150 f151=>?_
  obtain⟨_,_,rfl,⟨s153,A153,n153,c153,rfl,z153⟩,rfl⟩:=h149
  have z153:=z153.ext f151
  refine deps_nil ?_
  exact⟨.agg #[.bool s153,.slice A153 n153 c153],rfl,rfl,fun _=>by kernel_rfl,⟨_,_,_,_,rfl,z153⟩⟩
 · 
  intro v154 e155
  refine deps_cons rfl rfl fun x156 y157 h158 e159 f160=>?_
  obtain⟨_,_,rfl,⟨s162,A162,n162,c162,rfl,z162⟩,rfl⟩:=h158
  have z162:=z162.ext f160
  refine deps_nil ?_
  exact⟨.int .i64 8,rfl,rfl,fun _=>by kernel_rfl,rfl⟩
 · 
  intro v163 e164
  refine deps_nil (wl_alloc rfl (z:= .agg #[F0,S0]) (vs:= [F0,S0]) (fun _=>by kernel_rfl) rfl (by decide) fun g165 v166 nb=>?_)
  exact pi_done rfl nb.ext ⟨_,rfl,by rw [←nb.at_];exact e164.size,nb.bk⟩
 · 
  intro v167 e168
  have hw16:=hw15.trans e168
  refine dk rfl rfl (dk rfl rfl (deps_cons rfl rfl fun x179 y180 h181 e182 f183=>?_))
  obtain⟨s184,A184,n184,c184,rfl,z184⟩:=h181
  have z184:=z184.ext f183
  refine dk rfl rfl (deps_cons rfl rfl fun x190 y191 h192 e193 f194=>?_)
  obtain⟨_,_,rfl,⟨s196,A196,n196,c196,rfl,z196⟩,rfl⟩:=h192
  have z196:=z196.ext f194
  refine deps_cons rfl rfl fun x197 y198 h199 e200 f201=>?_
  obtain⟨_,_,rfl,⟨s203,A203,n203,c203,rfl,z203⟩,rfl⟩:=h199
  have z203:=z203.ext f201
  refine deps_cons rfl rfl fun x204 y205 h206 e207 f208=>?_
  obtain⟨s209,A209,n209,c209,rfl,z209⟩:=h206
  have z209:=z209.ext f208
  refine dk rfl rfl (deps_cons rfl rfl fun x215 y216 h217 e218 f219=>?_)
  obtain⟨g220,rfl,ge222,hb221⟩:=h217
  have hb221:=hb221.ext f219
  have q223:g67<g220:=Nat.lt_of_lt_of_le hb85.lt ge222
  have ge222:w.heap.size≤g220:=Nat.le_trans hw15.size ge222
  refine deps_nil (so aggInt hb221 [.bool s209,.slice A209 n209 c209] hw16 ge222 rfl rfl rfl rfl fun v224 hb226 u227 hw17=>(mv 1 rfl (wl_nil (eo_np (eo_then (cw_seq (sr (mv 1 rfl (pu (v:= .bool true) rfl (by kernel_rfl) (ne_ (cw_true rfl (sr (pu (v:= .agg #[F0,S0]) rfl (by kernel_rfl) ?_)))))))))))))
  refine pu (v:= .agg #[F0,S0]) rfl (by kernel_rfl) ?_
  have hb230:=((((((hb27.ext (e32.trans (e37.trans (e40.trans (e43.trans (e57.trans (e63.trans e69))))))).updN u76 (by omega)).updN u81 (by omega)).updN u86 (by omega)).ext e168).updN u227 (by omega))
  refine so aggInt hb230 [F0,S0] hw17 ge28 rfl rfl rfl rfl fun v229 hb231 u232 hw18=>?_
  have hb235:=(((((((hb33.ext (e37.trans (e40.trans (e43.trans (e57.trans (e63.trans e69)))))).updN u76 (by omega)).updN u81 (by omega)).updN u86 (by omega)).ext e168).updN u227 (by omega)).updN u232 (by omega))
  refine so aggInt hb235 [F0,S0] hw18 ge34 rfl rfl rfl rfl fun v234 hb236 u237 hw19=>(mv 1 rfl (ne_ (cw_ret (eo_thenR (eo_ret [.agg #[F0,S0],.agg #[F0,S0],.int .i64 6] rfl ⟨⟨_,rfl,load_agg aggInt (hb231.updN u237 (by omega)) [F0,S0] rfl (bq rfl) rfl⟩,⟨_,rfl,load_agg aggInt hb236 [F0,S0] rfl (bq rfl) rfl⟩,rfl,trivial⟩ ?_)))))
  exact⟨_,rfl,⟨_,_,_,rfl,⟨_,_,_,_,rfl,(((Zr.zero (w:=v224) (base:=w.heap.size)).updT hb230 u232).updT hb235 u237)⟩,⟨_,_,_,_,rfl,(((Zr.zero (w:=v224) (base:=w.heap.size)).updT hb230 u232).updT hb235 u237)⟩,rfl⟩,hw19⟩
theorem g_bezout_Crt_none {w:World}{sa:Bool}{Aa:Option Addr}{na ca:Nat}{x:Int}{sb:Bool}{Ab:Option Addr}{nb cb:Nat}{m:Int}{sf:Bool}{Af:Option Addr}{nf cf:Nat}{y:Int}{sd:Bool}{Ad:Option Addr}{nd cd:Nat}{n:Int}{b:Nat}(hb:b≤w.heap.size) (hx:Zi w sa Aa na ca x) (la:na≤67108864) (hm:Zi w sb Ab nb cb m) (lb:nb≤67108864) (hy:Zi w sf Af nf cf y) (lf:nf≤67108864) (hn:Zi w sd Ad nd cd n) (ld:nd≤67108864) (hm0:m≠0) (hn0:n≠0) (hd:¬(Int.gcd m n:Int)∣y-x):
  Calls Tryz.prog 50 #[.agg #[.bool sa,.slice Aa na ca],.agg #[.bool sb,.slice Ab nb cb],.agg #[.bool sf,.slice Af nf cf],.agg #[.bool sd,.slice Ad nd cd]] w (Gv w (T3 (ZR b (0)) (ZR b (0)) (Is (.int .i64 6)))):=(g_bezout_Crt_noneI hx la hm lb hy lf hn ld hm0 hn0 hd).mono (Gv.imp (T3.imp (ZR.imp hb) (ZR.imp hb) Is.imp))
set_option maxHeartbeats 4000000 in
theorem g_bezout_Crt_okI {w:World}{sa:Bool}{Aa:Option Addr}{na ca:Nat}{x:Int}{sb:Bool}{Ab:Option Addr}{nb cb:Nat}{m:Int}{sf:Bool}{Af:Option Addr}{nf cf:Nat}{y:Int}{sd:Bool}{Ad:Option Addr}{nd cd:Nat}{n:Int}(hx:Zi w sa Aa na ca x) (la:na≤67108864) (hm:Zi w sb Ab nb cb m) (lb:nb≤67108864) (hy:Zi w sf Af nf cf y) (lf:nf≤67108864) (hn:Zi w sd Ad nd cd n) (ld:nd≤67108864) (hm0:m≠0) (hn0:n≠0){s:Int}(d1:m∣x-s) (d2:n∣y-s):
    Calls Tryz.prog 50 #[.agg #[.bool sa,.slice Aa na ca],.agg #[.bool sb,.slice Ab nb cb],.agg #[.bool sf,.slice Af nf cf],.agg #[.bool sd,.slice Ad nd cd]] w (Gv w (T3 (ZR w.heap.size (s%(Int.lcm m n:Int))) (ZR w.heap.size ((Int.lcm m n:Int))) (Is (.int .i64 0)))):=by
 have Lx:ln x≤67108864:=Nat.le_trans hx.ln la
 have Lm:ln m≤67108864:=Nat.le_trans hm.ln lb
 have Ly:ln y≤67108864:=Nat.le_trans hy.ln lf
 have Ln:ln n≤67108864:=Nat.le_trans hn.ln ld
 refine sx_enter Tryz.func50 rfl (n:=62) rfl (bq rfl) (args:= [.agg #[.bool sa,.slice Aa na ca],.agg #[.bool sb,.slice Ab nb cb],.agg #[.bool sf,.slice Af nf cf],.agg #[.bool sd,.slice Ad nd cd]]) (cw_keep [(0,.agg #[.bool sa,.slice Aa na ca]),(1,.agg #[.bool sb,.slice Ab nb cb]),(2,.agg #[.bool sf,.slice Af nf cf]),(3,.agg #[.bool sd,.slice Ad nd cd])] ⟨rfl,rfl,rfl,rfl,trivial⟩ (sr (bx [.bool sa,.slice Aa na ca] (Ext.refl w) rfl rfl rfl fun g1 v2 hb4 ge5 e3 hw1=>(bxq [.bool sb,.slice Ab nb cb] hw1 hb4.lt rfl rfl rfl fun g6 v7 hb9 ge10 q11 e8 hw2=>(bxq [.bool sf,.slice Af nf cf] hw2 hb9.lt rfl rfl rfl fun g12 v13 hb15 ge16 q17 e14 hw3=>(bxq [.bool sd,.slice Ad nd cd] hw3 hb15.lt rfl rfl rfl fun g18 v19 hb21 ge22 q23 e20 hw4=>(alq [F0,S0] hw4 hb21.lt (fun _=>by kernel_rfl) rfl fun g24 v25 hb27 ge28 q29 e26 hw5=>(alq [F0,S0] hw5 hb27.lt (fun _=>by kernel_rfl) rfl fun g30 v31 hb33 ge34 q35 e32 hw6=>(mv 1 rfl (ne_ (cw_seq (sr (lo aggInt (hb9.ext (e14.trans (e20.trans (e26.trans e32)))) [.bool sb,.slice Ab nb cb] rfl rfl rfl ?_)))))))))))))
 refine cl (vs:= [.agg #[.bool sb,.slice Ab nb cb]]) hw6 (g_zint_Sign (hm.ext hw6) (lx_ lb rfl)) rfl (by kernel_rfl) fun xr38 v36 r38 e37 hw7=>?_
 obtain rfl:=r38
 refine wl_cmp rfl rfl rfl false (scmp_eq_f hm0) (by decide) (mv 1 rfl (lo aggInt (hb21.ext (e26.trans (e32.trans e37))) [.bool sd,.slice Ad nd cd] rfl rfl rfl (cl (vs:= [.agg #[.bool sd,.slice Ad nd cd]]) hw7 (g_zint_Sign (hn.ext hw7) (lx_ ld rfl)) rfl (by kernel_rfl) fun xr41 v39 r41 e40 hw8=>?_)))
 obtain rfl:=r41
 refine wl_cmp rfl rfl rfl false (scmp_eq_f hn0) (by decide) (pu (v:= .bool false) rfl (by kernel_rfl) (ne_ (cw_false rfl (cw_skip (eo_then (sr (lo aggInt (hb9.ext (e14.trans (e20.trans (e26.trans (e32.trans (e37.trans e40)))))) [.bool sb,.slice Ab nb cb] rfl rfl rfl (lo aggInt (hb21.ext (e26.trans (e32.trans (e37.trans e40)))) [.bool sd,.slice Ad nd cd] rfl rfl rfl (wl_call rfl rfl (vs:= [.agg #[.bool sb,.slice Ab nb cb],.agg #[.bool sd,.slice Ad nd cd]]) (by kernel_rfl) (by decide) (g_bezout_Ext hw8.size (hm.ext hw8) (lx_ lb rfl) (hn.ext hw8) (lx_ ld rfl)) ?_)))))))))
 rintro _ v42 ⟨u45,v46,p47,xr44,rfl,r44,e43⟩
 have L48:ln ((Int.gcd m n:Int))≤67108864:=Nat.le_trans (ln_gcd _ _) (Nat.max_le.2 ⟨Nat.le_trans Lm (by decide),Nat.le_trans Ln (by decide)⟩)
 have L49:ln (u45)≤67108865:=(p47.ln_u Lm Ln)
 have L50:ln (v46)≤67108865:=(p47.ln_v Lm Ln)
 refine ret_intro ?_
 have hw9:=hw8.trans e43
 obtain⟨_,_,_,rfl,⟨s52,A52,n52,c52,rfl,z52⟩,⟨s53,A53,n53,c53,rfl,z53⟩,⟨s54,A54,n54,c54,rfl,z54⟩⟩:=r44
 refine mv 1 rfl (pu (v:= .agg #[.bool s52,.slice A52 n52 c52]) rfl (by kernel_rfl) (pu (v:= .agg #[.bool s53,.slice A53 n53 c53]) rfl (by kernel_rfl) (pu (v:= .agg #[.bool s54,.slice A54 n54 c54]) rfl (by kernel_rfl) (alq [F0,S0] hw9 (hb33.ext (e37.trans (e40.trans e43))).lt (fun _=>by kernel_rfl) rfl fun g55 v56 hb58 ge59 q60 e57 hw10=>(alq [F0,S0] hw10 hb58.lt (fun _=>by kernel_rfl) rfl fun g61 v62 hb64 ge65 q66 e63 hw11=>(alq [F0,S0] hw11 hb64.lt (fun _=>by kernel_rfl) rfl fun g67 v68 hb70 ge71 q72 e69 hw12=>?_))))))
 have hb74:=(hb58.ext (e63.trans e69))
 refine so aggInt hb74 [.bool s52,.slice A52 n52 c52] hw12 ge59 rfl rfl rfl rfl fun v73 hb75 u76 hw13=>?_
 have hb79:=((hb64.ext e69).updN u76 (by omega))
 refine so aggInt hb79 [.bool s53,.slice A53 n53 c53] hw13 ge65 rfl rfl rfl rfl fun v78 hb80 u81 hw14=>?_
 have hb84:=((hb70.updN u76 (by omega)).updN u81 (by omega))
 refine so aggInt hb84 [.bool s54,.slice A54 n54 c54] hw14 ge71 rfl rfl rfl rfl fun v83 hb85 u86 hw15=>(ne_ (cw_seq ?_))
 have L88:ln (y-x)≤67108865:=Nat.le_trans (ln_sub Ly Lx) (by decide)
 have L90:ln ((y-x).tdiv (Int.gcd m n:Int))≤67108865:=Nat.le_trans (ln_tdiv _ _) L88
 refine cw_draw mix 9 [6,7] [Is (.agg #[.bool sf,.slice Af nf cf]),Is (.agg #[.bool sa,.slice Aa na ca]),ZR w.heap.size (y-x),Is (.agg #[.bool s52,.slice A52 n52 c52]),T2 (ZR w.heap.size ((y-x).tdiv (Int.gcd m n:Int))) (Is (.int .i64 0)),T2 (ZR w.heap.size ((y-x).tdiv (Int.gcd m n:Int))) (Is (.int .i64 0)),ZR w.heap.size ((y-x).tdiv (Int.gcd m n:Int)),Is (.int .i64 0),PR v83.heap.size 27 [F0,S0]] [[],[],[0,1],[],[2,3],[4],[5],[5],[]] [[],[],[0,1],[],[0,1,2,3],[0,1,2,3,4],[0,1,2,3,4,5],[0,1,2,3,4,5],[],[0,1,2,3,4,5,6,8],[0,1,2,3,4,5,6,7,8,9]] rfl
  (obs_cons rfl rfl (hob rfl rfl ?_) (obs_cons rfl rfl (hob rfl rfl ?_) (obs_cons rfl rfl (hob rfl rfl ?_) (obs_cons rfl rfl (hob rfl rfl ?_) (obs_cons rfl rfl (hob rfl rfl ?_) (obs_cons rfl rfl (hob rfl rfl ?_) (obs_float rfl rfl (fob rfl ?_) (obs_float rfl rfl (fob rfl ?_) (obs_cons rfl rfl (hob rfl rfl ?_) obs_nil))))))))) ?_
 · 
  exact fun _ e97=>deps_nil (lo aggInt (((((hb15.ext (e20.trans (e26.trans (e32.trans (e37.trans (e40.trans (e43.trans (e57.trans (e63.trans e69))))))))).updN u76 (by omega)).updN u81 (by omega)).updN u86 (by omega)).ext e97) [.bool sf,.slice Af nf cf] rfl rfl rfl (pi_done rfl (Ext.refl _) rfl))
 · 
  exact fun _ e99=>deps_nil (lo aggInt (((((hb4.ext (e8.trans (e14.trans (e20.trans (e26.trans (e32.trans (e37.trans (e40.trans (e43.trans (e57.trans (e63.trans e69))))))))))).updN u76 (by omega)).updN u81 (by omega)).updN u86 (by omega)).ext e99) [.bool sa,.slice Aa na ca] rfl rfl rfl (pi_done rfl (Ext.refl _) rfl))
 · 
  intro v100 e101
  have hw16:=hw15.trans e101
  refine dk rfl rfl (dk rfl rfl (deps_nil ?_))
  have L112:ln (y-x)≤67108865:=Nat.le_trans (ln_sub Ly Lx) (by decide)
  refine cl (vs:= [.agg #[.bool sf,.slice Af nf cf],.agg #[.bool sa,.slice Aa na ca]]) hw16 (g_zint_Sub hw16.size (hy.ext hw16) (lx_ lf rfl) (hx.ext hw16) (lx_ la rfl)) rfl (by kernel_rfl) fun xr115 v113 r115 e114 hw17=>?_
  obtain⟨s116,A116,n116,c116,rfl,z116⟩:=r115
  exact pi_done rfl e114 ⟨_,_,_,_,rfl,z116⟩
 · 
  exact fun _ e118=>deps_nil (lo aggInt (((hb75.updN u81 (by omega)).updN u86 (by omega)).ext e118) [.bool s52,.slice A52 n52 c52] rfl rfl rfl (pi_done rfl (Ext.refl _) rfl))
 · 
  intro v119 e120
  have hw16:=hw15.trans e120
  refine deps_cons rfl rfl fun x121 y122 h123 e124 f125=>?_
  obtain⟨s126,A126,n126,c126,rfl,z126⟩:=h123
  have z126:=z126.ext f125
  refine dk rfl rfl (deps_nil ?_)
  have L132:ln ((y-x).tdiv (Int.gcd m n:Int))≤67108865:=Nat.le_trans (ln_tdiv _ _) L88
  refine cl (vs:= [.agg #[.bool s126,.slice A126 n126 c126],.agg #[.bool s52,.slice A52 n52 c52]]) hw16 (g_zint_Exact_ok hw16.size z126.zi (z126.le (lx_ L88 rfl)) (((((z52.ext (e57.trans (e63.trans e69))).updT hb74 u76).updT hb79 u81).updT hb84 u86).ext e120).zi (z52.le (lx_ L48 rfl)) (gcd_ne_l hm0) (mod_of_dvd (crt_dvd d1 d2))) rfl (by kernel_rfl) fun xr135 v133 r135 e134 hw17=>?_
  obtain⟨_,_,rfl,⟨s137,A137,n137,c137,rfl,z137⟩,rfl⟩:=r135
  exact pi_done rfl e134 ⟨_,_,rfl,⟨_,_,_,_,rfl,z137⟩,rfl⟩
 · 
  intro v138 e139
  refine deps_cons rfl rfl fun x140 y141 h142 e143 f144=>?_
  obtain⟨_,_,rfl,⟨s146,A146,n146,c146,rfl,z146⟩,rfl⟩:=h142
  have z146:=z146.ext f144
  refine deps_nil (mv 1 rfl ?_)
  exact pi_done rfl (Ext.refl _) ⟨_,_,rfl,⟨_,_,_,_,rfl,z146⟩,rfl⟩
 · 
  intro v147 e148
  refine deps_cons rfl rfl fun x149 y150 h151 e152 f153=>?_
  obtain⟨_,_,rfl,⟨s155,A155,n155,c155,rfl,z155⟩,rfl⟩:=h151
  have z155:=z155.ext f153
  refine deps_nil ?_
  exact⟨.agg #[.bool s155,.slice A155 n155 c155],rfl,rfl,fun _=>by kernel_rfl,⟨_,_,_,_,rfl,z155⟩⟩
 · 
  intro v156 e157
  refine deps_cons rfl rfl fun x158 y159 h160 e161 f162=>?_
  obtain⟨_,_,rfl,⟨s164,A164,n164,c164,rfl,z164⟩,rfl⟩:=h160
  have z164:=z164.ext f162
  refine deps_nil ?_
  exact⟨.int .i64 0,rfl,rfl,fun _=>by kernel_rfl,rfl⟩
 · 
  intro v165 e166
  refine deps_nil (wl_alloc rfl (z:= .agg #[F0,S0]) (vs:= [F0,S0]) (fun _=>by kernel_rfl) rfl (by decide) fun g167 v168 nb=>?_)
  exact pi_done rfl nb.ext ⟨_,rfl,by rw [←nb.at_];exact e166.size,nb.bk⟩
 · 
  intro v169 e170
  have hw16:=hw15.trans e170
  refine dk rfl rfl (dk rfl rfl (deps_cons rfl rfl fun x181 y182 h183 e184 f185=>?_))
  obtain⟨s186,A186,n186,c186,rfl,z186⟩:=h183
  have z186:=z186.ext f185
  refine dk rfl rfl (deps_cons rfl rfl fun x192 y193 h194 e195 f196=>?_)
  obtain⟨_,_,rfl,⟨s198,A198,n198,c198,rfl,z198⟩,rfl⟩:=h194
  have z198:=z198.ext f196
  refine deps_cons rfl rfl fun x199 y200 h201 e202 f203=>?_
  obtain⟨_,_,rfl,⟨s205,A205,n205,c205,rfl,z205⟩,rfl⟩:=h201
  have z205:=z205.ext f203
  refine deps_cons rfl rfl fun x206 y207 h208 e209 f210=>?_
  obtain⟨s211,A211,n211,c211,rfl,z211⟩:=h208
  have z211:=z211.ext f210
  refine dk rfl rfl (deps_cons rfl rfl fun x217 y218 h219 e220 f221=>?_)
  obtain⟨g222,rfl,ge224,hb223⟩:=h219
  have hb223:=hb223.ext f221
  have q225:g67<g222:=Nat.lt_of_lt_of_le hb85.lt ge224
  have ge224:w.heap.size≤g222:=Nat.le_trans hw15.size ge224
  refine deps_nil (so aggInt hb223 [.bool s211,.slice A211 n211 c211] hw16 ge224 rfl rfl rfl rfl fun v226 hb228 u229 hw17=>(mv 1 rfl (wl_nil (eo_np (eo_then (cw_seq (sr (mv 1 rfl (pu (v:= .bool false) rfl (by kernel_rfl) (ne_ (cw_false rfl (cw_skip (eo_then ?_)))))))))))))
  refine sr (lo aggInt ((((((hb9.ext (e14.trans (e20.trans (e26.trans (e32.trans (e37.trans (e40.trans (e43.trans (e57.trans (e63.trans e69)))))))))).updN u76 (by omega)).updN u81 (by omega)).updN u86 (by omega)).ext e170).updN u229 (by omega)) [.bool sb,.slice Ab nb cb] rfl rfl rfl (lo aggInt ((((((hb21.ext (e26.trans (e32.trans (e37.trans (e40.trans (e43.trans (e57.trans (e63.trans e69)))))))).updN u76 (by omega)).updN u81 (by omega)).updN u86 (by omega)).ext e170).updN u229 (by omega)) [.bool sd,.slice Ad nd cd] rfl rfl rfl ?_))
  have L231:ln ((Int.lcm m n:Int))≤134217728:=Nat.le_trans (ln_lcmC _ _) (Nat.add_le_add Lm Ln)
  refine cl (vs:= [.agg #[.bool sb,.slice Ab nb cb],.agg #[.bool sd,.slice Ad nd cd]]) hw17 (g_bezout_Lcm hw17.size (hm.ext hw17) (lx_ lb rfl) (hn.ext hw17) (lx_ ld rfl)) rfl (by kernel_rfl) fun xr234 v232 r234 e233 hw18=>?_
  obtain⟨s235,A235,n235,c235,rfl,z235⟩:=r234
  have hb237:=(((((((hb33.ext (e37.trans (e40.trans (e43.trans (e57.trans (e63.trans e69)))))).updN u76 (by omega)).updN u81 (by omega)).updN u86 (by omega)).ext e170).updN u229 (by omega)).ext e233)
  refine so aggInt hb237 [.bool s235,.slice A235 n235 c235] hw18 ge34 rfl rfl rfl rfl fun v236 hb238 u239 hw19=>(ne_ (cw_seq ?_))
  have hlz:(Int.lcm m n:Int)≠0:=lcm_ne hm0 hn0
  have L241:ln (((y-x).tdiv (Int.gcd m n:Int))*u45)≤134217730:=Nat.le_trans (ln_mul L90 L49) (by decide)
  have L243:ln (m*(((y-x).tdiv (Int.gcd m n:Int))*u45))≤201326594:=Nat.le_trans (ln_mul Lm L241) (by decide)
  have L245:ln (x+(m*(((y-x).tdiv (Int.gcd m n:Int))*u45)))≤201326595:=Nat.le_trans (ln_add Lx L243) (by decide)
  have L247:ln ((x+(m*(((y-x).tdiv (Int.gcd m n:Int))*u45)))%(Int.lcm m n:Int))≤134217728:=Nat.le_trans (ln_emod hlz) L231
  refine cw_draw mix 12 [10,11] [Is (.agg #[.bool sa,.slice Aa na ca]),Is (.agg #[.bool sb,.slice Ab nb cb]),Is (.agg #[.bool s211,.slice A211 n211 c211]),Is (.agg #[.bool s53,.slice A53 n53 c53]),ZR w.heap.size (((y-x).tdiv (Int.gcd m n:Int))*u45),ZR w.heap.size (m*(((y-x).tdiv (Int.gcd m n:Int))*u45)),ZR w.heap.size (x+(m*(((y-x).tdiv (Int.gcd m n:Int))*u45))),Is (.agg #[.bool s235,.slice A235 n235 c235]),T2 (ZR w.heap.size ((x+(m*(((y-x).tdiv (Int.gcd m n:Int))*u45)))%(Int.lcm m n:Int))) (Is (.int .i64 0)),T2 (ZR w.heap.size ((x+(m*(((y-x).tdiv (Int.gcd m n:Int))*u45)))%(Int.lcm m n:Int))) (Is (.int .i64 0)),ZR w.heap.size ((x+(m*(((y-x).tdiv (Int.gcd m n:Int))*u45)))%(Int.lcm m n:Int)),Is (.int .i64 0)] [[],[],[],[],[2,3],[1,4],[0,5],[],[6,7],[8],[9],[9]] [[],[],[],[],[2,3],[1,2,3,4],[0,1,2,3,4,5],[],[0,1,2,3,4,5,6,7],[0,1,2,3,4,5,6,7,8],[0,1,2,3,4,5,6,7,8,9],[0,1,2,3,4,5,6,7,8,9],[0,1,2,3,4,5,6,7,8,9,10]] rfl
   (obs_cons rfl rfl (hob rfl rfl ?_) (obs_cons rfl rfl (hob rfl rfl ?_) (obs_cons rfl rfl (hob rfl rfl ?_) (obs_cons rfl rfl (hob rfl rfl ?_) (obs_cons rfl rfl (hob rfl rfl ?_) (obs_cons rfl rfl (hob rfl rfl ?_) (obs_cons rfl rfl (hob rfl rfl ?_) (obs_cons rfl rfl (hob rfl rfl ?_) (obs_cons rfl rfl (hob rfl rfl ?_) (obs_cons rfl rfl (hob rfl rfl ?_) (obs_float rfl rfl (fob rfl ?_) (obs_float rfl rfl (fob rfl ?_) obs_nil)))))))))))) ?_
  · 
   exact fun _ e254=>deps_nil (lo aggInt (((((((((hb4.ext (e8.trans (e14.trans (e20.trans (e26.trans (e32.trans (e37.trans (e40.trans (e43.trans (e57.trans (e63.trans e69))))))))))).updN u76 (by omega)).updN u81 (by omega)).updN u86 (by omega)).ext e170).updN u229 (by omega)).ext e233).updN u239 (by omega)).ext e254) [.bool sa,.slice Aa na ca] rfl rfl rfl (pi_done rfl (Ext.refl _) rfl))
  · 
   exact fun _ e256=>deps_nil (lo aggInt (((((((((hb9.ext (e14.trans (e20.trans (e26.trans (e32.trans (e37.trans (e40.trans (e43.trans (e57.trans (e63.trans e69)))))))))).updN u76 (by omega)).updN u81 (by omega)).updN u86 (by omega)).ext e170).updN u229 (by omega)).ext e233).updN u239 (by omega)).ext e256) [.bool sb,.slice Ab nb cb] rfl rfl rfl (pi_done rfl (Ext.refl _) rfl))
  · 
   exact fun _ e258=>deps_nil (lo aggInt (((hb228.ext e233).updN u239 (by omega)).ext e258) [.bool s211,.slice A211 n211 c211] rfl rfl rfl (pi_done rfl (Ext.refl _) rfl))
  · 
   exact fun _ e260=>deps_nil (lo aggInt ((((((hb80.updN u86 (by omega)).ext e170).updN u229 (by omega)).ext e233).updN u239 (by omega)).ext e260) [.bool s53,.slice A53 n53 c53] rfl rfl rfl (pi_done rfl (Ext.refl _) rfl))
  · 
   intro v261 e262
   have hw20:=hw19.trans e262
   refine dk rfl rfl (dk rfl rfl (deps_nil ?_))
   have L273:ln (((y-x).tdiv (Int.gcd m n:Int))*u45)≤134217730:=Nat.le_trans (ln_mul L90 L49) (by decide)
   refine cl (vs:= [.agg #[.bool s211,.slice A211 n211 c211],.agg #[.bool s53,.slice A53 n53 c53]]) hw20 (g_zint_Mul hw20.size ((((z211.updT hb223 u229).ext e233).updT hb237 u239).ext e262).zi (z211.le (lx_ L90 rfl)) (((((((((z53.ext (e57.trans (e63.trans e69))).updT hb74 u76).updT hb79 u81).updT hb84 u86).ext e170).updT hb223 u229).ext e233).updT hb237 u239).ext e262).zi (z53.le (lx_ L49 rfl))) rfl (by kernel_rfl) fun xr276 v274 r276 e275 hw21=>?_
   obtain⟨s277,A277,n277,c277,rfl,z277⟩:=r276
   exact pi_done rfl e275 ⟨_,_,_,_,rfl,z277⟩
  · 
   intro v278 e279
   have hw20:=hw19.trans e279
   refine dk rfl rfl (deps_cons rfl rfl fun x285 y286 h287 e288 f289=>?_)
   obtain⟨s290,A290,n290,c290,rfl,z290⟩:=h287
   have z290:=z290.ext f289
   refine deps_nil ?_
   have L291:ln (m*(((y-x).tdiv (Int.gcd m n:Int))*u45))≤201326594:=Nat.le_trans (ln_mul Lm L241) (by decide)
   refine cl (vs:= [.agg #[.bool sb,.slice Ab nb cb],.agg #[.bool s290,.slice A290 n290 c290]]) hw20 (g_zint_Mul hw20.size (hm.ext hw20) (lx_ lb rfl) z290.zi (z290.le (lx_ L241 rfl))) rfl (by kernel_rfl) fun xr294 v292 r294 e293 hw21=>?_
   obtain⟨s295,A295,n295,c295,rfl,z295⟩:=r294
   exact pi_done rfl e293 ⟨_,_,_,_,rfl,z295⟩
  · 
   intro v296 e297
   have hw20:=hw19.trans e297
   refine dk rfl rfl (deps_cons rfl rfl fun x303 y304 h305 e306 f307=>?_)
   obtain⟨s308,A308,n308,c308,rfl,z308⟩:=h305
   have z308:=z308.ext f307
   refine deps_nil ?_
   have L309:ln (x+(m*(((y-x).tdiv (Int.gcd m n:Int))*u45)))≤201326595:=Nat.le_trans (ln_add Lx L243) (by decide)
   refine cl (vs:= [.agg #[.bool sa,.slice Aa na ca],.agg #[.bool s308,.slice A308 n308 c308]]) hw20 (g_zint_Add hw20.size (hx.ext hw20) (lx_ la rfl) z308.zi (z308.le (lx_ L243 rfl))) rfl (by kernel_rfl) fun xr312 v310 r312 e311 hw21=>?_
   obtain⟨s313,A313,n313,c313,rfl,z313⟩:=r312
   exact pi_done rfl e311 ⟨_,_,_,_,rfl,z313⟩
  · 
   exact fun _ e315=>deps_nil (lo aggInt (hb238.ext e315) [.bool s235,.slice A235 n235 c235] rfl rfl rfl (pi_done rfl (Ext.refl _) rfl))
  · 
   intro v316 e317
   have hw20:=hw19.trans e317
   refine deps_cons rfl rfl fun x318 y319 h320 e321 f322=>?_
   obtain⟨s323,A323,n323,c323,rfl,z323⟩:=h320
   have z323:=z323.ext f322
   refine dk rfl rfl (deps_nil ?_)
   have L329:ln ((x+(m*(((y-x).tdiv (Int.gcd m n:Int))*u45)))%(Int.lcm m n:Int))≤134217728:=Nat.le_trans (ln_emod hlz) L231
   refine cl (vs:= [.agg #[.bool s323,.slice A323 n323 c323],.agg #[.bool s235,.slice A235 n235 c235]]) hw20 (g_zint_Mod hw20.size z323.zi (z323.le (lx_ L245 rfl)) ((z235.updT hb237 u239).ext e317).zi (z235.le (lx_ L231 rfl)) hlz) rfl (by kernel_rfl) fun xr332 v330 r332 e331 hw21=>?_
   obtain⟨_,_,rfl,⟨s334,A334,n334,c334,rfl,z334⟩,rfl⟩:=r332
   exact pi_done rfl e331 ⟨_,_,rfl,⟨_,_,_,_,rfl,z334⟩,rfl⟩
  · 
   intro v335 e336
   refine deps_cons rfl rfl fun x337 y338 h339 e340 f341=>?_
   obtain⟨_,_,rfl,⟨s343,A343,n343,c343,rfl,z343⟩,rfl⟩:=h339
   have z343:=z343.ext f341
   refine deps_nil (mv 1 rfl ?_)
   exact pi_done rfl (Ext.refl _) ⟨_,_,rfl,⟨_,_,_,_,rfl,z343⟩,rfl⟩
  · 
   intro v344 e345
   refine deps_cons rfl rfl fun x346 y347 h348 e349 f350=>?_
   obtain⟨_,_,rfl,⟨s352,A352,n352,c352,rfl,z352⟩,rfl⟩:=h348
   have z352:=z352.ext f350
   refine deps_nil ?_
   exact⟨.agg #[.bool s352,.slice A352 n352 c352],rfl,rfl,fun _=>by kernel_rfl,⟨_,_,_,_,rfl,z352⟩⟩
  · 
   intro v353 e354
   refine deps_cons rfl rfl fun x355 y356 h357 e358 f359=>?_
   obtain⟨_,_,rfl,⟨s361,A361,n361,c361,rfl,z361⟩,rfl⟩:=h357
   have z361:=z361.ext f359
   refine deps_nil ?_
   exact⟨.int .i64 0,rfl,rfl,fun _=>by kernel_rfl,rfl⟩
  · 
   intro v362 e363
   have hw20:=hw19.trans e363
   refine dk rfl rfl (dk rfl rfl (dk rfl rfl (dk rfl rfl (deps_cons rfl rfl fun x384 y385 h386 e387 f388=>?_))))
   obtain⟨s389,A389,n389,c389,rfl,z389⟩:=h386
   have z389:=z389.ext f388
   refine deps_cons rfl rfl fun x390 y391 h392 e393 f394=>?_
   obtain⟨s395,A395,n395,c395,rfl,z395⟩:=h392
   have z395:=z395.ext f394
   refine deps_cons rfl rfl fun x396 y397 h398 e399 f400=>?_
   obtain⟨s401,A401,n401,c401,rfl,z401⟩:=h398
   have z401:=z401.ext f400
   refine dk rfl rfl (deps_cons rfl rfl fun x407 y408 h409 e410 f411=>?_)
   obtain⟨_,_,rfl,⟨s413,A413,n413,c413,rfl,z413⟩,rfl⟩:=h409
   have z413:=z413.ext f411
   refine deps_cons rfl rfl fun x414 y415 h416 e417 f418=>?_
   obtain⟨_,_,rfl,⟨s420,A420,n420,c420,rfl,z420⟩,rfl⟩:=h416
   have z420:=z420.ext f418
   refine deps_cons rfl rfl fun x421 y422 h423 e424 f425=>?_
   obtain⟨s426,A426,n426,c426,rfl,z426⟩:=h423
   have z426:=z426.ext f425
   refine dk rfl rfl (deps_nil ?_)
   have hb433:=(((((((((hb27.ext (e32.trans (e37.trans (e40.trans (e43.trans (e57.trans (e63.trans e69))))))).updN u76 (by omega)).updN u81 (by omega)).updN u86 (by omega)).ext e170).updN u229 (by omega)).ext e233).updN u239 (by omega)).ext e363)
   refine so aggInt hb433 [.bool s426,.slice A426 n426 c426] hw20 ge28 rfl rfl rfl rfl fun v432 hb434 u435 hw21=>(wl_nil (eo_np (eo_then (cw_seq (cw_keep [(0,.agg #[.bool sa,.slice Aa na ca]),(1,.agg #[.bool sb,.slice Ab nb cb]),(2,.agg #[.bool sf,.slice Af nf cf]),(3,.agg #[.bool sd,.slice Ad nd cd]),(4,.pointer (some ⟨g1,0,none⟩)),(5,.pointer (some ⟨g6,0,none⟩)),(6,.pointer (some ⟨g12,0,none⟩)),(7,.pointer (some ⟨g18,0,none⟩)),(8,.pointer (some ⟨g24,0,none⟩)),(9,.pointer (some ⟨g30,0,none⟩)),(16,.agg #[.bool sb,.slice Ab nb cb]),(17,.int .i64 (scmp m 0)),(18,.bool false),(19,.bool false),(20,.agg #[.bool sd,.slice Ad nd cd]),(21,.int .i64 (scmp n 0)),(22,.bool false),(23,.bool false),(27,.agg #[.bool sb,.slice Ab nb cb]),(28,.agg #[.bool sd,.slice Ad nd cd]),(29,.tuple #[.agg #[.bool s52,.slice A52 n52 c52],.agg #[.bool s53,.slice A53 n53 c53],.agg #[.bool s54,.slice A54 n54 c54]]),(26,.tuple #[.agg #[.bool s52,.slice A52 n52 c52],.agg #[.bool s53,.slice A53 n53 c53],.agg #[.bool s54,.slice A54 n54 c54]]),(30,.agg #[.bool s52,.slice A52 n52 c52]),(31,.agg #[.bool s53,.slice A53 n53 c53]),(32,.agg #[.bool s54,.slice A54 n54 c54]),(11,.pointer (some ⟨g55,0,none⟩)),(12,.pointer (some ⟨g61,0,none⟩)),(13,.pointer (some ⟨g67,0,none⟩)),(34,.agg #[.bool sf,.slice Af nf cf]),(35,.agg #[.bool sa,.slice Aa na ca]),(36,.agg #[.bool s186,.slice A186 n186 c186]),(37,.agg #[.bool s52,.slice A52 n52 c52]),(38,.tuple #[.agg #[.bool s198,.slice A198 n198 c198],I0]),(33,.tuple #[.agg #[.bool s205,.slice A205 n205 c205],I0]),(39,.agg #[.bool s211,.slice A211 n211 c211]),(40,.int .i64 0),(14,.pointer (some ⟨g222,0,none⟩)),(15,.int .i64 0),(41,.int .i64 0),(42,.bool false),(45,.agg #[.bool sb,.slice Ab nb cb]),(46,.agg #[.bool sd,.slice Ad nd cd]),(47,.agg #[.bool s235,.slice A235 n235 c235]),(49,.agg #[.bool sa,.slice Aa na ca]),(50,.agg #[.bool sb,.slice Ab nb cb]),(51,.agg #[.bool s211,.slice A211 n211 c211]),(52,.agg #[.bool s53,.slice A53 n53 c53]),(53,.agg #[.bool s389,.slice A389 n389 c389]),(54,.agg #[.bool s395,.slice A395 n395 c395]),(55,.agg #[.bool s401,.slice A401 n401 c401]),(56,.agg #[.bool s235,.slice A235 n235 c235]),(57,.tuple #[.agg #[.bool s413,.slice A413 n413 c413],I0]),(48,.tuple #[.agg #[.bool s420,.slice A420 n420 c420],I0]),(58,.agg #[.bool s426,.slice A426 n426 c426]),(59,.int .i64 0)] ⟨rfl,rfl,rfl,rfl,rfl,rfl,rfl,rfl,rfl,rfl,rfl,rfl,rfl,rfl,rfl,rfl,rfl,rfl,rfl,rfl,rfl,rfl,rfl,rfl,rfl,rfl,rfl,rfl,rfl,rfl,rfl,rfl,rfl,rfl,rfl,rfl,rfl,rfl,rfl,rfl,rfl,rfl,rfl,rfl,rfl,rfl,rfl,rfl,rfl,rfl,rfl,rfl,rfl,rfl,rfl,trivial⟩ ?_)))))
   obtain⟨v437,hv,e438⟩:∃v,v=v432.drew∧Ext v432 v:=⟨_,rfl,(Ext.refl _).drew⟩
   have hw22:=hw21.trans e438
   have hb440:=(hb434.ext e438)
   obtain⟨v439,hr444,hb441,u442,hs443⟩:=run_stored (P:=Tryz.prog) (us:= [.bool s426,.slice A426 n426 c426]) (off:=0) aggInt rfl hb440 (bq rfl) rfl [.bool s426,.slice A426 n426 c426] rfl
   have hw23:=u442.ext hw22 ge28
   have hb446:=((((hb238.ext e363).updN u435 (by omega)).ext e438).updN u442 (by omega))
   obtain⟨v445,hr450,hb447,u448,hs449⟩:=run_stored (P:=Tryz.prog) (us:= [.bool s235,.slice A235 n235 c235]) (off:=0) aggInt rfl hb446 (bq rfl) rfl [.bool s235,.slice A235 n235 c235] rfl
   have hw24:=u448.ext hw23 ge34
   refine cw_det mix (w:=v437) [.agg #[.bool s426,.slice A426 n426 c426],.agg #[.bool s235,.slice A235 n235 c235],undef,undef,I0] [v437,v439,v445] [2,3] [[],[],[0],[1],[]] [[],[],[0],[0,1,2],[0,1,2,3]] [(0,0),(1,0),(1,1),(2,0),(3,1),(4,2)] rfl hv ?_ ?_
   · 
    refine dobs_val _ rfl rfl rfl rfl rfl (rd_load rfl (load_agg aggInt (hb434.ext e438) [.bool s426,.slice A426 n426 c426] rfl (bq rfl) rfl)) (dobs_val _ rfl rfl rfl rfl rfl (rd_load rfl (load_agg aggInt (((hb238.ext e363).updN u435 (by omega)).ext e438) [.bool s235,.slice A235 n235 c235] rfl (bq rfl) rfl)) (dobs_val _ rfl rfl rfl rfl rfl (rd_load rfl (load_agg aggInt ((((hb238.ext e363).updN u435 (by omega)).ext e438).updN u442 (by omega)) [.bool s235,.slice A235 n235 c235] rfl (bq rfl) rfl)) (dobs_sto _ rfl rfl rfl rfl rfl (rd_store rfl rfl hr444) (dobs_sto _ rfl rfl rfl rfl rfl (rd_store rfl rfl hr450) (dobs_val _ rfl rfl rfl rfl rfl (rd_assign rfl) ?_)))))
    exact dobs_nil
   clear hv
   refine eo_keep [(0,.agg #[.bool sa,.slice Aa na ca]),(1,.agg #[.bool sb,.slice Ab nb cb]),(2,.agg #[.bool sf,.slice Af nf cf]),(3,.agg #[.bool sd,.slice Ad nd cd]),(4,.pointer (some ⟨g1,0,none⟩)),(5,.pointer (some ⟨g6,0,none⟩)),(6,.pointer (some ⟨g12,0,none⟩)),(7,.pointer (some ⟨g18,0,none⟩)),(8,.pointer (some ⟨g24,0,none⟩)),(9,.pointer (some ⟨g30,0,none⟩)),(16,.agg #[.bool sb,.slice Ab nb cb]),(17,.int .i64 (scmp m 0)),(18,.bool false),(19,.bool false),(20,.agg #[.bool sd,.slice Ad nd cd]),(21,.int .i64 (scmp n 0)),(22,.bool false),(23,.bool false),(27,.agg #[.bool sb,.slice Ab nb cb]),(28,.agg #[.bool sd,.slice Ad nd cd]),(29,.tuple #[.agg #[.bool s52,.slice A52 n52 c52],.agg #[.bool s53,.slice A53 n53 c53],.agg #[.bool s54,.slice A54 n54 c54]]),(26,.tuple #[.agg #[.bool s52,.slice A52 n52 c52],.agg #[.bool s53,.slice A53 n53 c53],.agg #[.bool s54,.slice A54 n54 c54]]),(30,.agg #[.bool s52,.slice A52 n52 c52]),(31,.agg #[.bool s53,.slice A53 n53 c53]),(32,.agg #[.bool s54,.slice A54 n54 c54]),(11,.pointer (some ⟨g55,0,none⟩)),(12,.pointer (some ⟨g61,0,none⟩)),(13,.pointer (some ⟨g67,0,none⟩)),(34,.agg #[.bool sf,.slice Af nf cf]),(35,.agg #[.bool sa,.slice Aa na ca]),(36,.agg #[.bool s186,.slice A186 n186 c186]),(37,.agg #[.bool s52,.slice A52 n52 c52]),(38,.tuple #[.agg #[.bool s198,.slice A198 n198 c198],I0]),(33,.tuple #[.agg #[.bool s205,.slice A205 n205 c205],I0]),(39,.agg #[.bool s211,.slice A211 n211 c211]),(40,.int .i64 0),(14,.pointer (some ⟨g222,0,none⟩)),(15,.int .i64 0),(41,.int .i64 0),(42,.bool false),(45,.agg #[.bool sb,.slice Ab nb cb]),(46,.agg #[.bool sd,.slice Ad nd cd]),(47,.agg #[.bool s235,.slice A235 n235 c235]),(49,.agg #[.bool sa,.slice Aa na ca]),(50,.agg #[.bool sb,.slice Ab nb cb]),(51,.agg #[.bool s211,.slice A211 n211 c211]),(52,.agg #[.bool s53,.slice A53 n53 c53]),(53,.agg #[.bool s389,.slice A389 n389 c389]),(54,.agg #[.bool s395,.slice A395 n395 c395]),(55,.agg #[.bool s401,.slice A401 n401 c401]),(56,.agg #[.bool s235,.slice A235 n235 c235]),(57,.tuple #[.agg #[.bool s413,.slice A413 n413 c413],I0]),(48,.tuple #[.agg #[.bool s420,.slice A420 n420 c420],I0]),(58,.agg #[.bool s426,.slice A426 n426 c426]),(59,.int .i64 0),(60,.agg #[.bool s426,.slice A426 n426 c426]),(61,.agg #[.bool s235,.slice A235 n235 c235]),(10,.int .i64 0)] ⟨rfl,rfl,rfl,rfl,rfl,rfl,rfl,rfl,rfl,rfl,rfl,rfl,rfl,rfl,rfl,rfl,rfl,rfl,rfl,rfl,rfl,rfl,rfl,rfl,rfl,rfl,rfl,rfl,rfl,rfl,rfl,rfl,rfl,rfl,rfl,rfl,rfl,rfl,rfl,rfl,rfl,rfl,rfl,rfl,rfl,rfl,rfl,rfl,rfl,rfl,rfl,rfl,rfl,rfl,rfl,rfl,rfl,rfl,trivial⟩ (eo_then (cw_ret (eo_ret [.agg #[.bool s426,.slice A426 n426 c426],.agg #[.bool s235,.slice A235 n235 c235],I0] rfl ⟨⟨_,rfl,load_agg aggInt (hb441.updN u448 (by omega)) [.bool s426,.slice A426 n426 c426] rfl (bq rfl) rfl⟩,⟨_,rfl,load_agg aggInt hb447 [.bool s235,.slice A235 n235 c235] rfl (bq rfl) rfl⟩,rfl,trivial⟩ ?_)))
   exact⟨_,rfl,⟨_,_,_,rfl,⟨_,_,_,_,rfl,(((((z426.updT hb433 u435).ext e438).updT hb440 u442).updT hb446 u448)).cast (crt_eq p47 hm0 d1 d2)⟩,⟨_,_,_,_,rfl,((((((z235.updT hb237 u239).ext e363).updT hb433 u435).ext e438).updT hb440 u442).updT hb446 u448)⟩,rfl⟩,hw24⟩
theorem g_bezout_Crt_ok {w:World}{sa:Bool}{Aa:Option Addr}{na ca:Nat}{x:Int}{sb:Bool}{Ab:Option Addr}{nb cb:Nat}{m:Int}{sf:Bool}{Af:Option Addr}{nf cf:Nat}{y:Int}{sd:Bool}{Ad:Option Addr}{nd cd:Nat}{n:Int}{b:Nat}(hb:b≤w.heap.size) (hx:Zi w sa Aa na ca x) (la:na≤67108864) (hm:Zi w sb Ab nb cb m) (lb:nb≤67108864) (hy:Zi w sf Af nf cf y) (lf:nf≤67108864) (hn:Zi w sd Ad nd cd n) (ld:nd≤67108864) (hm0:m≠0) (hn0:n≠0){s:Int}(d1:m∣x-s) (d2:n∣y-s):
  Calls Tryz.prog 50 #[.agg #[.bool sa,.slice Aa na ca],.agg #[.bool sb,.slice Ab nb cb],.agg #[.bool sf,.slice Af nf cf],.agg #[.bool sd,.slice Ad nd cd]] w (Gv w (T3 (ZR b (s%(Int.lcm m n:Int))) (ZR b ((Int.lcm m n:Int))) (Is (.int .i64 0)))):=(g_bezout_Crt_okI hx la hm lb hy lf hn ld hm0 hn0 d1 d2).mono (Gv.imp (T3.imp (ZR.imp hb) (ZR.imp hb) Is.imp))
theorem extI_end {x y:Int}:∀(n:Nat) (r0 r1 m0 m1:Int),r1.natAbs≤n→ExtI x y r0 r1 m0 m1→∃r a b,ExtI x y r 0 a b:=by
 intro n
 induction n with
 | zero=>
  intro r0 r1 m0 m1 h hI
  obtain rfl:r1=0:=by omega
  exact⟨_,_,_,hI⟩
 | succ n ih=>
  intro r0 r1 m0 m1 h hI
  by_cases hr:r1=0
  ·subst hr;exact⟨_,_,_,hI⟩
  ·exact ih _ _ _ _ (by have:=tmod_abs (x:=r0) hr;omega) (hI.step hr)
theorem bez_ex (x y:Int):∃u v,Bez x y u v:=by
 by_cases hy:y=0
 ·exact⟨_,_,Bez.ofZero hy⟩
 ·obtain⟨r,a,b,hI⟩:=extI_end _ _ _ _ _ (Nat.le_refl _) (ExtI.init (x:=x) hy)
  exact⟨_,_,(hI.done hy rfl).2.2.2.2.2⟩
def lcmL (zs:List Int):Int:=zs.foldl (fun l z=>(Int.lcm l z:Int)) 1
theorem lcmL_snoc (zs:List Int) (z:Int):lcmL (zs++ [z])=(Int.lcm (lcmL zs) z:Int):=by unfold lcmL;rw [List.foldl_append];rfl
theorem lcmL_succ {zs:List Int}{k:Nat}(h:k<zs.length):(Int.lcm (lcmL (zs.take k)) (zs.getD k 0):Int)=lcmL (zs.take (k+1)):=by rw [getD_snoc (d:=0) h,lcmL_snoc]
theorem ln_lcmL (zs:List Int) (k:Nat):ln (lcmL (zs.take k))≤1+((zs.take k).map ln).sum:=by
 induction k with
 | zero=>rw [List.take_zero];exact ln_w1 (by decide) (by decide)
 | succ k ih=>
  by_cases hk:k<zs.length
  ·rw [←lcmL_succ hk,getD_snoc (d:=0) hk,List.map_append,List.sum_append]
   refine Nat.le_trans (ln_lcmC _ _) ?_
   simp only [List.map_cons,List.map_nil,List.sum_cons,List.sum_nil]
   omega
  ·rw [List.take_of_length_le (by omega)] at ih⊢;exact ih
theorem sum_take_ln (zs:List Int) (k:Nat):((zs.take k).map ln).sum≤(zs.map ln).sum:=by
 have e:(zs.map ln).sum=((zs.take k).map ln).sum+((zs.drop k).map ln).sum:=by rw [←List.sum_append,←List.map_append,List.take_append_drop]
 omega
theorem ln_lcmL_le {zs:List Int}{N:Nat}(h:(zs.map ln).sum≤N) (k:Nat):ln (lcmL (zs.take k))≤N+1:=by
 have h1:=ln_lcmL zs k
 have h2:=sum_take_ln zs k
 omega
theorem lcmL_ne {zs:List Int}(h:∀i,i<zs.length→zs.getD i 0≠0) (k:Nat):lcmL (zs.take k)≠0:=by
 induction k with
 | zero=>rw [List.take_zero];decide
 | succ k ih=>
  by_cases hk:k<zs.length
  ·rw [←lcmL_succ hk];exact lcm_ne ih (h k hk)
  ·rw [List.take_of_length_le (by omega)] at ih⊢;exact ih
theorem lcmL_pos {zs:List Int}(h:∀i,i<zs.length→zs.getD i 0≠0):0<lcmL zs:=by
 have h1:=lcmL_ne h zs.length
 rw [List.take_length] at h1
 have h2:0≤lcmL zs:=by
  rcases zs.eq_nil_or_concat with rfl | ⟨r,a,rfl⟩
  ·decide
  ·rw [List.concat_eq_append,lcmL_snoc];omega
 omega
theorem dvd_lcmL {zs:List Int}{k:Nat}:∀i,i<k→i<zs.length→zs.getD i 0∣lcmL (zs.take k):=by
 induction k with
 | zero=>intro i hi;omega
 | succ k ih=>
  intro i hi hl
  by_cases hk:k<zs.length
  ·rw [←lcmL_succ hk]
   by_cases hik:i=k
   ·subst hik;exact Int.dvd_lcm_right _ _
   ·exact Int.dvd_trans (ih i (by omega) hl) (Int.dvd_lcm_left _ _)
  ·have:=ih i (by omega) hl
   rw [List.take_of_length_le (by omega)] at this⊢;exact this
theorem dvd_emod_sub (s l:Int):l∣s%l-s:=by
 have h:=Int.mul_ediv_add_emod s l
 exact⟨-(s/l),by rw [Int.mul_neg];omega⟩
theorem crt_next {rs ms:List Int}{k:Nat}{s:Int}(hk:k<ms.length) (hs:∀i,i<k→ms.getD i 0∣rs.getD i 0-s) (h0:∀i,i<ms.length→ms.getD i 0≠0) (hd:(Int.gcd (lcmL (ms.take k)) (ms.getD k 0):Int)∣rs.getD k 0-s%lcmL (ms.take k)):
  ∃s',lcmL (ms.take k)∣s%lcmL (ms.take k)-s'∧ms.getD k 0∣rs.getD k 0-s'∧∀i,i<k+1→ms.getD i 0∣rs.getD i 0-s':=by
 have hn:=lcmL_ne h0 k
 have hb:∃u v,Bez (lcmL (ms.take k)) (ms.getD k 0) u v:=bez_ex _ _
 obtain⟨u,v,hb⟩:=hb
 obtain⟨s',h1,h2⟩:=crt_ex hn hb hd
 refine⟨s',h1,h2,fun i hi=>?_⟩
 by_cases hik:i=k
 ·subst hik;exact h2
 ·have h3:=hs i (by omega)
  have h4:ms.getD i 0∣s%lcmL (ms.take k)-s':=Int.dvd_trans (dvd_lcmL i (by omega) (by omega)) h1
  have h5:ms.getD i 0∣s%lcmL (ms.take k)-s:=Int.dvd_trans (dvd_lcmL i (by omega) (by omega)) (dvd_emod_sub _ _)
  have e:rs.getD i 0-s'=(rs.getD i 0-s)+((s%lcmL (ms.take k)-s')-(s%lcmL (ms.take k)-s)):=by omega
  rw [e];exact Int.dvd_add h3 (Int.dvd_sub h4 h5)
set_option maxHeartbeats 4000000 in
theorem g_bezout_CrtAll_zero {w:World}{b:Nat}(hb:b≤w.heap.size){A B:Option Addr}{n cap cap2:Nat}{rs ms:List Int}{ks js:List Nat}(hr:Zl w A n cap rs ks) (hm:Zl w B n cap2 ms js) (hn:n≤2097152) (hkb:∀i,ks.getD i 0≤16777216) (hjb:∀i,js.getD i 0≤16777216) (hsum:(ms.map ln).sum≤1048576){i0:Nat}(hi0:i0<n∧ms.getD i0 0=0):
    Calls Tryz.prog 51 #[.slice A n cap,.slice B n cap2] w (Gv w (T3 (ZR b 0) (ZR b 0) (Is (.int .i64 4)))):=by
 refine sx_enter Tryz.func51 rfl (n:=58) rfl (bq rfl) (args:= [.slice A n cap,.slice B n cap2]) (cw_keep [(0,.slice A n cap),(1,.slice B n cap2)] ⟨rfl,rfl,trivial⟩ (sr (al [F0,S0] (Ext.refl w) (fun _=>by kernel_rfl) rfl fun g1 v2 hb4 ge5 e3 hw1=>(alq [F0,S0] hw1 hb4.lt (fun _=>by kernel_rfl) rfl fun g6 v7 hb9 ge10 q11 e8 hw2=>(mv 1 rfl (ne_ (cw_seq (sr (mv 1 rfl (pu (v:= .int .i64 ((n:Nat):Int)) rfl (by kernel_rfl) (mv 1 rfl (pu (v:= .int .i64 ((n:Nat):Int)) rfl (by kernel_rfl) (wl_cmp rfl rfl rfl false (cb_ne_f (a:=n) (b:=n) rfl rfl (by omega)) (by decide) ?_)))))))))))))
 refine ne_ (cw_false rfl (cw_skip (eo_then (cw_seq (sr (mv 1 rfl (pu (v:= .int .i64 ((n:Nat):Int)) rfl (by kernel_rfl) (mv 1 rfl (ne_ (cw_block ?_))))))))))
 refine cw_loop (T:=World×Nat)
  (fun⟨wr,k⟩=> [(0,.slice A n cap),(1,.slice B n cap2),(4,.pointer (some ⟨g1,0,none⟩)),(5,.pointer (some ⟨g6,0,none⟩)),(6,.int .i64 0),(17,.slice B n cap2),(18,.int .i64 ((n:Nat):Int)),(19,.int .i64 ((k:Nat):Int))])
  (fun⟨wr,k⟩=>wr)
  (fun⟨wr,k⟩=>(Ext w wr)∧(k≤n)∧(∀i,i<k→ms.getD i 0≠0)∧(Bk wr g1 27 [F0,S0])∧(Bk wr g6 27 [F0,S0]))
  (fun⟨wr,k⟩=>n-k)
  (⟨v7,0⟩:World×Nat) ⟨hw2,Nat.zero_le _,(fun i hi=>by omega),(hb4.ext e8),hb9⟩ rfl ⟨rfl,rfl,rfl,rfl,rfl,rfl,rfl,rfl,trivial⟩ ?_
 rintro⟨wr,k⟩ ⟨hw1,hk,hz,b_4,b_5⟩
 refine cw_re [(0,.slice A n cap),(1,.slice B n cap2),(4,.pointer (some ⟨g1,0,none⟩)),(5,.pointer (some ⟨g6,0,none⟩)),(6,.int .i64 0),(17,.slice B n cap2),(18,.int .i64 ((n:Nat):Int)),(19,.int .i64 ((k:Nat):Int))] wr rfl ⟨rfl,rfl,rfl,rfl,rfl,rfl,rfl,rfl,trivial⟩ (cw_seq ?_)
 by_cases hkn:k<n
 · 
  refine cw_region (wl_cmp rfl rfl rfl true (cb_lt_t (a:=k) (b:=n) rfl rfl (by omega)) (by decide) (ne_ (cw_seq (cw_true rfl (cw_skip (eo_then (cw_seq (cw_block (sr ?_)))))))))
  obtain⟨pz12,sz12,Bz12,cz12,hpz12,ldz12,ez12⟩:=hm.at (i:=k) (by omega)
  refine wl_idx rfl rfl rfl elemI aggInt.size k rfl (by omega) pz12 hpz12 (by decide) (wl_load rfl rfl (ldz12 _ hw1 _ _ aggInt) (by decide) (alq [F0,S0] hw1 b_5.lt (fun _=>by kernel_rfl) rfl fun g13 v14 hb16 ge17 q18 e15 hw2=>(so aggInt hb16 [.bool sz12,.slice Bz12 (js.getD k 0) cz12] hw2 ge17 rfl rfl rfl rfl fun v19 hb21 u22 hw3=>(ne_ (cw_seq ?_)))))
  by_cases hz0:ms.getD k 0=0
  · 
   refine cw_region (lo aggInt hb21 [.bool sz12,.slice Bz12 (js.getD k 0) cz12] rfl rfl rfl (cl (vs:= [.agg #[.bool sz12,.slice Bz12 (js.getD k 0) cz12]]) hw3 (g_zint_Sign (ez12.ext hw3) (Nat.le_trans (hjb k) (by decide))) rfl (by kernel_rfl) fun xr26 v24 r26 e25 hw4=>?_))
   obtain rfl:=r26
   refine wl_cmp rfl rfl rfl true (scmp_eq_t hz0) (by decide) (ne_ (cw_true rfl (sr (pu (v:= .agg #[F0,S0]) rfl (by kernel_rfl) (pu (v:= .agg #[F0,S0]) rfl (by kernel_rfl) ?_)))))
   have hb28:=(((b_4.ext e15).updN u22 (by omega)).ext e25)
   refine so aggInt hb28 [F0,S0] hw4 ge5 rfl rfl rfl rfl fun v27 hb29 u30 hw5=>?_
   have hb33:=((((b_5.ext e15).updN u22 (by omega)).ext e25).updN u30 (by omega))
   refine so aggInt hb33 [F0,S0] hw5 ge10 rfl rfl rfl rfl fun v32 hb34 u35 hw6=>(mv 1 rfl (ne_ (cw_ret (eo_block_ret (eo_thenR (eo_loopR (eo_block_ret (eo_thenR (eo_ret [.agg #[F0,S0],.agg #[F0,S0],.int .i64 4] rfl ⟨⟨_,rfl,load_agg aggInt (hb29.updN u35 (by omega)) [F0,S0] rfl (bq rfl) rfl⟩,⟨_,rfl,load_agg aggInt hb34 [F0,S0] rfl (bq rfl) rfl⟩,rfl,trivial⟩ ?_)))))))))
   exact⟨_,rfl,⟨_,_,_,rfl,⟨_,_,_,_,rfl,((((Zr.zero (w:=v24) (base:=w.heap.size)).updT hb28 u30).updT hb33 u35)).mono hb⟩,⟨_,_,_,_,rfl,((((Zr.zero (w:=v24) (base:=w.heap.size)).updT hb28 u30).updT hb33 u35)).mono hb⟩,rfl⟩,hw6⟩
  · 
   refine cw_region (lo aggInt hb21 [.bool sz12,.slice Bz12 (js.getD k 0) cz12] rfl rfl rfl (cl (vs:= [.agg #[.bool sz12,.slice Bz12 (js.getD k 0) cz12]]) hw3 (g_zint_Sign (ez12.ext hw3) (Nat.le_trans (hjb k) (by decide))) rfl (by kernel_rfl) fun xr39 v37 r39 e38 hw4=>?_))
   obtain rfl:=r39
   refine wl_cmp rfl rfl rfl false (scmp_eq_f hz0) (by decide) (ne_ (cw_false rfl (cw_skip (eo_block_normal (eo_then (cw_region (wl_ar rfl rfl rfl ((k+1:Nat):Int) (ai_add (a:=k) (b:=1) rfl rfl (by omega)) (by decide) (mv 1 rfl (wl_nil (eo_round (⟨v37,k+1⟩:World×Nat) ⟨hw4,(by omega),(fun i hi=>if h:i<k then hz i h else (show i=k by omega)▸hz0),(((b_4.ext e15).updN u22 (by omega)).ext e38),(((b_5.ext e15).updN u22 (by omega)).ext e38)⟩ (show n-(k+1)<n-k by omega) rfl ⟨rfl,rfl,rfl,rfl,rfl,rfl,rfl,rfl,trivial⟩))))))))))
 · 
  exact absurd hi0.2 (hz i0 (by omega))
set_option maxHeartbeats 4000000 in
theorem g_bezout_CrtAll_none {w:World}{b:Nat}(hb:b≤w.heap.size){A B:Option Addr}{n cap cap2:Nat}{rs ms:List Int}{ks js:List Nat}(hr:Zl w A n cap rs ks) (hm:Zl w B n cap2 ms js) (hn:n≤2097152) (hkb:∀i,ks.getD i 0≤16777216) (hjb:∀i,js.getD i 0≤16777216) (hsum:(ms.map ln).sum≤1048576) (h0:∀i,i<ms.length→ms.getD i 0≠0) (hno:¬ ∃s,∀i,i<n→ms.getD i 0∣rs.getD i 0-s):
    Calls Tryz.prog 51 #[.slice A n cap,.slice B n cap2] w (Gv w (T3 (ZR b 0) (ZR b 0) (Is (.int .i64 6)))):=by
 refine sx_enter Tryz.func51 rfl (n:=58) rfl (bq rfl) (args:= [.slice A n cap,.slice B n cap2]) (cw_keep [(0,.slice A n cap),(1,.slice B n cap2)] ⟨rfl,rfl,trivial⟩ (sr (al [F0,S0] (Ext.refl w) (fun _=>by kernel_rfl) rfl fun g1 v2 hb4 ge5 e3 hw1=>(alq [F0,S0] hw1 hb4.lt (fun _=>by kernel_rfl) rfl fun g6 v7 hb9 ge10 q11 e8 hw2=>(mv 1 rfl (ne_ (cw_seq (sr (mv 1 rfl (pu (v:= .int .i64 ((n:Nat):Int)) rfl (by kernel_rfl) (mv 1 rfl (pu (v:= .int .i64 ((n:Nat):Int)) rfl (by kernel_rfl) (wl_cmp rfl rfl rfl false (cb_ne_f (a:=n) (b:=n) rfl rfl (by omega)) (by decide) ?_)))))))))))))
 refine ne_ (cw_false rfl (cw_skip (eo_then (cw_seq (sr (mv 1 rfl (pu (v:= .int .i64 ((n:Nat):Int)) rfl (by kernel_rfl) (mv 1 rfl (ne_ (cw_block ?_))))))))))
 refine cw_loop (T:=World×Nat)
  (fun⟨wr,k⟩=> [(0,.slice A n cap),(1,.slice B n cap2),(4,.pointer (some ⟨g1,0,none⟩)),(5,.pointer (some ⟨g6,0,none⟩)),(6,.int .i64 0),(17,.slice B n cap2),(18,.int .i64 ((n:Nat):Int)),(19,.int .i64 ((k:Nat):Int))])
  (fun⟨wr,k⟩=>wr)
  (fun⟨wr,k⟩=>(Ext w wr)∧(k≤n)∧(∀i,i<k→ms.getD i 0≠0)∧(Bk wr g1 27 [F0,S0])∧(Bk wr g6 27 [F0,S0]))
  (fun⟨wr,k⟩=>n-k)
  (⟨v7,0⟩:World×Nat) ⟨hw2,Nat.zero_le _,(fun i hi=>by omega),(hb4.ext e8),hb9⟩ rfl ⟨rfl,rfl,rfl,rfl,rfl,rfl,rfl,rfl,trivial⟩ ?_
 rintro⟨wr,k⟩ ⟨hw1,hk,hz,b_4,b_5⟩
 refine cw_re [(0,.slice A n cap),(1,.slice B n cap2),(4,.pointer (some ⟨g1,0,none⟩)),(5,.pointer (some ⟨g6,0,none⟩)),(6,.int .i64 0),(17,.slice B n cap2),(18,.int .i64 ((n:Nat):Int)),(19,.int .i64 ((k:Nat):Int))] wr rfl ⟨rfl,rfl,rfl,rfl,rfl,rfl,rfl,rfl,trivial⟩ (cw_seq ?_)
 by_cases hkn:k<n
 · 
  refine cw_region (wl_cmp rfl rfl rfl true (cb_lt_t (a:=k) (b:=n) rfl rfl (by omega)) (by decide) (ne_ (cw_seq (cw_true rfl (cw_skip (eo_then (cw_seq (cw_block (sr ?_)))))))))
  obtain⟨pz12,sz12,Bz12,cz12,hpz12,ldz12,ez12⟩:=hm.at (i:=k) (by omega)
  refine wl_idx rfl rfl rfl elemI aggInt.size k rfl (by omega) pz12 hpz12 (by decide) (wl_load rfl rfl (ldz12 _ hw1 _ _ aggInt) (by decide) (alq [F0,S0] hw1 b_5.lt (fun _=>by kernel_rfl) rfl fun g13 v14 hb16 ge17 q18 e15 hw2=>(so aggInt hb16 [.bool sz12,.slice Bz12 (js.getD k 0) cz12] hw2 ge17 rfl rfl rfl rfl fun v19 hb21 u22 hw3=>(ne_ (cw_seq ?_)))))
  have hz0:ms.getD k 0≠0:=h0 k (by rw [hm.len];omega)
  refine cw_region (lo aggInt hb21 [.bool sz12,.slice Bz12 (js.getD k 0) cz12] rfl rfl rfl (cl (vs:= [.agg #[.bool sz12,.slice Bz12 (js.getD k 0) cz12]]) hw3 (g_zint_Sign (ez12.ext hw3) (Nat.le_trans (hjb k) (by decide))) rfl (by kernel_rfl) fun xr26 v24 r26 e25 hw4=>?_))
  obtain rfl:=r26
  refine wl_cmp rfl rfl rfl false (scmp_eq_f hz0) (by decide) (ne_ (cw_false rfl (cw_skip (eo_block_normal (eo_then (cw_region (wl_ar rfl rfl rfl ((k+1:Nat):Int) (ai_add (a:=k) (b:=1) rfl rfl (by omega)) (by decide) (mv 1 rfl (wl_nil (eo_round (⟨v24,k+1⟩:World×Nat) ⟨hw4,(by omega),(fun i hi=>if h:i<k then hz i h else (show i=k by omega)▸hz0),(((b_4.ext e15).updN u22 (by omega)).ext e25),(((b_5.ext e15).updN u22 (by omega)).ext e25)⟩ (show n-(k+1)<n-k by omega) rfl ⟨rfl,rfl,rfl,rfl,rfl,rfl,rfl,rfl,trivial⟩))))))))))
 · 
  refine cw_region (wl_cmp rfl rfl rfl false (cb_lt_f (a:=k) (b:=n) rfl rfl (by omega)) (by decide) (ne_ (cw_seq (cw_false rfl (cw_exit (eo_thenX (eo_loopX (eo_block_here (eo_then (sr (cl (vs:= [.int .i64 1]) hw1 (g_zint_Of hw1.size (by decide) (by decide)) rfl (by kernel_rfl) fun xr29 v27 r29 e28 hw2=>?_)))))))))))
  obtain⟨s30,A30,n30,c30,rfl,z30⟩:=r29
  have hb32:=(b_5.ext e28)
  refine so aggInt hb32 [.bool s30,.slice A30 n30 c30] hw2 ge10 rfl rfl rfl rfl fun v31 hb33 u34 hw3=>(ne_ (cw_seq (sr (mv 1 rfl (pu (v:= .int .i64 ((n:Nat):Int)) rfl (by kernel_rfl) (mv 1 rfl (ne_ (cw_block ?_))))))))
  refine cw_loop (T:=World×Nat×Int×ZC×ZC)
   (fun⟨wq,j,s,kr,km⟩=> [(0,.slice A n cap),(1,.slice B n cap2),(4,.pointer (some ⟨g1,0,none⟩)),(5,.pointer (some ⟨g6,0,none⟩)),(6,.int .i64 0),(31,.int .i64 ((n:Nat):Int)),(32,.int .i64 ((j:Nat):Int))])
   (fun⟨wq,j,s,kr,km⟩=>wq)
   (fun⟨wq,j,s,kr,km⟩=>(Ext w wq)∧(j≤n)∧(∀i,i<j→ms.getD i 0∣rs.getD i 0-s)∧(Bk wq g1 27 [.bool kr.s,.slice kr.A kr.n kr.c])∧(Bk wq g6 27 [.bool km.s,.slice km.A km.n km.c])∧(Zr wq w.heap.size kr.s kr.A kr.n kr.c (s%lcmL (ms.take j)))∧(Zr wq w.heap.size km.s km.A km.n km.c (lcmL (ms.take j))))
   (fun⟨wq,j,s,kr,km⟩=>n-j)
   (⟨v31,0,0,⟨false,none,0,0⟩,⟨s30,A30,n30,c30⟩⟩:World×Nat×Int×ZC×ZC) ⟨hw3,Nat.zero_le _,(fun i hi=>by omega),((b_4.ext e28).updN u34 (by omega)),hb33,(Zr.zero.cast (by rw [List.take_zero];exact (Int.emod_one _).symm)),((z30.updT hb32 u34)).cast (by rfl)⟩ rfl ⟨rfl,rfl,rfl,rfl,rfl,rfl,rfl,trivial⟩ ?_
  rintro⟨wq,j,s,kr,km⟩ ⟨hw1,hj,hs,b_4,b_5,zr,zm⟩
  refine cw_re [(0,.slice A n cap),(1,.slice B n cap2),(4,.pointer (some ⟨g1,0,none⟩)),(5,.pointer (some ⟨g6,0,none⟩)),(6,.int .i64 0),(31,.int .i64 ((n:Nat):Int)),(32,.int .i64 ((j:Nat):Int))] wq rfl ⟨rfl,rfl,rfl,rfl,rfl,rfl,rfl,trivial⟩ (cw_seq ?_)
  by_cases hjn0:j<n
  · 
   refine cw_region (wl_cmp rfl rfl rfl true (cb_lt_t (a:=j) (b:=n) rfl rfl (by omega)) (by decide) (ne_ (cw_seq (cw_true rfl (cw_skip (eo_then (cw_seq (cw_block (sr (mv 2 rfl (ne_ (cw_seq ?_))))))))))))
   have hL0:lcmL (ms.take j)≠0:=lcmL_ne h0 j
   by_cases hd:(Int.gcd (lcmL (ms.take j)) (ms.getD j 0):Int)∣rs.getD j 0-s%lcmL (ms.take j)
   · 
    obtain⟨s',d1,d2,hs2⟩:=crt_next (by rw [hm.len];omega) hs h0 hd
    obtain⟨pz36,sz36,Bz36,cz36,hpz36,ldz36,ez36⟩:=hr.at (i:=j) (by omega)
    obtain⟨pz37,sz37,Bz37,cz37,hpz37,ldz37,ez37⟩:=hm.at (i:=j) (by omega)
    have L38:ln ((Int.lcm (lcmL (ms.take j)) (ms.getD j 0):Int))≤1048577:=(by rw [lcmL_succ (by rw [hm.len];omega)];exact ln_lcmL_le hsum (j+1))
    have L39:ln (s'%(Int.lcm (lcmL (ms.take j)) (ms.getD j 0):Int))≤1048577:=Nat.le_trans (ln_emod (lcm_ne hL0 (h0 j (by rw [hm.len];omega)))) L38
    refine cw_draw mix 15 [12,13,14] [Is (.agg #[.bool kr.s,.slice kr.A kr.n kr.c]),Is (.agg #[.bool km.s,.slice km.A km.n km.c]),Is (.slice A n cap),Is (.int .i64 ((j:Nat):Int)),Is (.pointer (some pz36)),Is (.agg #[.bool sz36,.slice Bz36 (ks.getD j 0) cz36]),Is (.slice B n cap2),Is (.int .i64 ((j:Nat):Int)),Is (.pointer (some pz37)),Is (.agg #[.bool sz37,.slice Bz37 (js.getD j 0) cz37]),T3 (ZR w.heap.size (s'%(Int.lcm (lcmL (ms.take j)) (ms.getD j 0):Int))) (ZR w.heap.size ((Int.lcm (lcmL (ms.take j)) (ms.getD j 0):Int))) (Is (.int .i64 0)),T3 (ZR w.heap.size (s'%(Int.lcm (lcmL (ms.take j)) (ms.getD j 0):Int))) (ZR w.heap.size ((Int.lcm (lcmL (ms.take j)) (ms.getD j 0):Int))) (Is (.int .i64 0)),ZR w.heap.size (s'%(Int.lcm (lcmL (ms.take j)) (ms.getD j 0):Int)),ZR w.heap.size ((Int.lcm (lcmL (ms.take j)) (ms.getD j 0):Int)),Is (.int .i64 0)] [[],[],[],[],[2,3],[4],[],[],[6,7],[8],[0,1,5,9],[10],[11],[11],[11]] [[],[],[],[],[2,3],[2,3,4],[],[],[6,7],[6,7,8],[0,1,2,3,4,5,6,7,8,9],[0,1,2,3,4,5,6,7,8,9,10],[0,1,2,3,4,5,6,7,8,9,10,11],[0,1,2,3,4,5,6,7,8,9,10,11],[0,1,2,3,4,5,6,7,8,9,10,11],[0,1,2,3,4,5,6,7,8,9,10,11,12],[0,1,2,3,4,5,6,7,8,9,10,11,12,13,15],[0,1,2,3,4,5,6,7,8,9,10,11,12,13,14,15,16]] rfl
     (obs_cons rfl rfl (hob rfl rfl ?_) (obs_cons rfl rfl (hob rfl rfl ?_) (obs_cons rfl rfl (hob rfl rfl ?_) (obs_cons rfl rfl (hob rfl rfl ?_) (obs_cons rfl rfl (hob rfl rfl ?_) (obs_cons rfl rfl (hob rfl rfl ?_) (obs_cons rfl rfl (hob rfl rfl ?_) (obs_cons rfl rfl (hob rfl rfl ?_) (obs_cons rfl rfl (hob rfl rfl ?_) (obs_cons rfl rfl (hob rfl rfl ?_) (obs_cons rfl rfl (hob rfl rfl ?_) (obs_cons rfl rfl (hob rfl rfl ?_) (obs_float rfl rfl (fob rfl ?_) (obs_float rfl rfl (fob rfl ?_) (obs_float rfl rfl (fob rfl ?_) obs_nil))))))))))))))) ?_
    · 
     exact fun _ e49=>deps_nil (lo aggInt (b_4.ext e49) [.bool kr.s,.slice kr.A kr.n kr.c] rfl rfl rfl (pi_done rfl (Ext.refl _) rfl))
    · 
     exact fun _ e51=>deps_nil (lo aggInt (b_5.ext e51) [.bool km.s,.slice km.A km.n km.c] rfl rfl rfl (pi_done rfl (Ext.refl _) rfl))
    · 
     exact fun _ _=>deps_nil (mv 1 rfl (pi_done rfl (Ext.refl _) rfl))
    · 
     exact fun _ _=>deps_nil (mv 1 rfl (pi_done rfl (Ext.refl _) rfl))
    · 
     exact fun _ _=>dk rfl rfl (dk rfl rfl (deps_nil (wl_idx rfl rfl rfl elemI aggInt.size j rfl (by omega) pz36 hpz36 (by decide) (pi_done rfl (Ext.refl _) rfl))))
    · 
     intro v68 e69
     have hw2:=hw1.trans e69
     refine dk rfl rfl (deps_nil (wl_load rfl rfl (ldz36 _ hw2 _ _ aggInt) (by decide) ?_))
     exact pi_done rfl (Ext.refl _) rfl
    · 
     exact fun _ _=>deps_nil (mv 1 rfl (pi_done rfl (Ext.refl _) rfl))
    · 
     exact fun _ _=>deps_nil (mv 1 rfl (pi_done rfl (Ext.refl _) rfl))
    · 
     exact fun _ _=>dk rfl rfl (dk rfl rfl (deps_nil (wl_idx rfl rfl rfl elemI aggInt.size j rfl (by omega) pz37 hpz37 (by decide) (pi_done rfl (Ext.refl _) rfl))))
    · 
     intro v91 e92
     have hw2:=hw1.trans e92
     refine dk rfl rfl (deps_nil (wl_load rfl rfl (ldz37 _ hw2 _ _ aggInt) (by decide) ?_))
     exact pi_done rfl (Ext.refl _) rfl
    · 
     intro v98 e99
     have hw2:=hw1.trans e99
     refine dk rfl rfl (dk rfl rfl (dk rfl rfl (dk rfl rfl (deps_nil ?_))))
     have L120:ln ((Int.lcm (lcmL (ms.take j)) (ms.getD j 0):Int))≤1048577:=(by rw [lcmL_succ (by rw [hm.len];omega)];exact ln_lcmL_le hsum (j+1))
     have L121:ln (s'%(Int.lcm (lcmL (ms.take j)) (ms.getD j 0):Int))≤1048577:=Nat.le_trans (ln_emod (lcm_ne hL0 (h0 j (by rw [hm.len];omega)))) L120
     refine cl (vs:= [.agg #[.bool kr.s,.slice kr.A kr.n kr.c],.agg #[.bool km.s,.slice km.A km.n km.c],.agg #[.bool sz36,.slice Bz36 (ks.getD j 0) cz36],.agg #[.bool sz37,.slice Bz37 (js.getD j 0) cz37]]) hw2 (g_bezout_Crt_ok hw2.size (zr.ext e99).zi (zr.le (Nat.le_trans (Nat.le_trans (ln_emod (lcmL_ne h0 j)) (ln_lcmL_le hsum j)) (by decide))) (zm.ext e99).zi (zm.le (Nat.le_trans (ln_lcmL_le hsum j) (by decide))) (ez36.ext hw2) (Nat.le_trans (hkb j) (by decide)) (ez37.ext hw2) (Nat.le_trans (hjb j) (by decide)) hL0 (h0 j (by rw [hm.len];omega)) d1 d2) rfl (by kernel_rfl) fun xr124 v122 r124 e123 hw3=>?_
     obtain⟨_,_,_,rfl,⟨s126,A126,n126,c126,rfl,z126⟩,⟨s127,A127,n127,c127,rfl,z127⟩,rfl⟩:=r124
     exact pi_done rfl e123 ⟨_,_,_,rfl,⟨_,_,_,_,rfl,z126⟩,⟨_,_,_,_,rfl,z127⟩,rfl⟩
    · 
     intro v128 e129
     refine deps_cons rfl rfl fun x130 y131 h132 e133 f134=>?_
     obtain⟨_,_,_,rfl,⟨s136,A136,n136,c136,rfl,z136⟩,⟨s137,A137,n137,c137,rfl,z137⟩,rfl⟩:=h132
     have z136:=z136.ext f134
     have z137:=z137.ext f134
     refine deps_nil (mv 1 rfl ?_)
     exact pi_done rfl (Ext.refl _) ⟨_,_,_,rfl,⟨_,_,_,_,rfl,z136⟩,⟨_,_,_,_,rfl,z137⟩,rfl⟩
    · 
     intro v138 e139
     refine deps_cons rfl rfl fun x140 y141 h142 e143 f144=>?_
     obtain⟨_,_,_,rfl,⟨s146,A146,n146,c146,rfl,z146⟩,⟨s147,A147,n147,c147,rfl,z147⟩,rfl⟩:=h142
     have z146:=z146.ext f144
     have z147:=z147.ext f144
     refine deps_nil ?_
     exact⟨.agg #[.bool s146,.slice A146 n146 c146],rfl,rfl,fun _=>by kernel_rfl,⟨_,_,_,_,rfl,z146⟩⟩
    · 
     intro v148 e149
     refine deps_cons rfl rfl fun x150 y151 h152 e153 f154=>?_
     obtain⟨_,_,_,rfl,⟨s156,A156,n156,c156,rfl,z156⟩,⟨s157,A157,n157,c157,rfl,z157⟩,rfl⟩:=h152
     have z156:=z156.ext f154
     have z157:=z157.ext f154
     refine deps_nil ?_
     exact⟨.agg #[.bool s157,.slice A157 n157 c157],rfl,rfl,fun _=>by kernel_rfl,⟨_,_,_,_,rfl,z157⟩⟩
    · 
     intro v158 e159
     refine deps_cons rfl rfl fun x160 y161 h162 e163 f164=>?_
     obtain⟨_,_,_,rfl,⟨s166,A166,n166,c166,rfl,z166⟩,⟨s167,A167,n167,c167,rfl,z167⟩,rfl⟩:=h162
     have z166:=z166.ext f164
     have z167:=z167.ext f164
     refine deps_nil ?_
     exact⟨.int .i64 0,rfl,rfl,fun _=>by kernel_rfl,rfl⟩
    · 
     intro v168 e169
     have hw2:=hw1.trans e169
     refine dk rfl rfl (dk rfl rfl (dk rfl rfl (dk rfl rfl (dk rfl rfl (dk rfl rfl (dk rfl rfl (dk rfl rfl (dk rfl rfl (dk rfl rfl (deps_cons rfl rfl fun x220 y221 h222 e223 f224=>?_))))))))))
     obtain⟨_,_,_,rfl,⟨s226,A226,n226,c226,rfl,z226⟩,⟨s227,A227,n227,c227,rfl,z227⟩,rfl⟩:=h222
     have z226:=z226.ext f224
     have z227:=z227.ext f224
     refine deps_cons rfl rfl fun x228 y229 h230 e231 f232=>?_
     obtain⟨_,_,_,rfl,⟨s234,A234,n234,c234,rfl,z234⟩,⟨s235,A235,n235,c235,rfl,z235⟩,rfl⟩:=h230
     have z234:=z234.ext f232
     have z235:=z235.ext f232
     refine deps_cons rfl rfl fun x236 y237 h238 e239 f240=>?_
     obtain⟨s241,A241,n241,c241,rfl,z241⟩:=h238
     have z241:=z241.ext f240
     refine deps_cons rfl rfl fun x242 y243 h244 e245 f246=>?_
     obtain⟨s247,A247,n247,c247,rfl,z247⟩:=h244
     have z247:=z247.ext f246
     refine dk rfl rfl (deps_nil ?_)
     have hb254:=(b_4.ext e169)
     refine so aggInt hb254 [.bool s241,.slice A241 n241 c241] hw2 ge5 rfl rfl rfl rfl fun v253 hb255 u256 hw3=>?_
     have hb259:=((b_5.ext e169).updN u256 (by omega))
     refine so aggInt hb259 [.bool s247,.slice A247 n247 c247] hw3 ge10 rfl rfl rfl rfl fun v258 hb260 u261 hw4=>(mv 1 rfl (wl_nil (eo_np (eo_then (sr (mv 1 rfl (wl_cmp rfl rfl rfl false (by decide) (by decide) (ne_ (cw_false rfl (cw_skip (eo_block_normal (eo_then (cw_region ?_)))))))))))))
     refine wl_ar rfl rfl rfl ((j+1:Nat):Int) (ai_add (a:=j) (b:=1) rfl rfl (by omega)) (by decide) (mv 1 rfl (wl_nil (eo_round (⟨v258,j+1,s',⟨s241,A241,n241,c241⟩,⟨s247,A247,n247,c247⟩⟩:World×Nat×Int×ZC×ZC) ⟨hw4,(by omega),hs2,(hb255.updN u261 (by omega)),hb260,(((z241.updT hb254 u256).updT hb259 u261)).cast (by rw [lcmL_succ (by rw [hm.len];omega)]),(((z247.updT hb254 u256).updT hb259 u261)).cast (lcmL_succ (by rw [hm.len];omega))⟩ (show n-(j+1)<n-j by omega) rfl ⟨rfl,rfl,rfl,rfl,rfl,rfl,rfl,trivial⟩)))
   · 
    obtain⟨pz263,sz263,Bz263,cz263,hpz263,ldz263,ez263⟩:=hr.at (i:=j) (by omega)
    obtain⟨pz264,sz264,Bz264,cz264,hpz264,ldz264,ez264⟩:=hm.at (i:=j) (by omega)
    refine cw_draw mix 15 [12,13,14] [Is (.agg #[.bool kr.s,.slice kr.A kr.n kr.c]),Is (.agg #[.bool km.s,.slice km.A km.n km.c]),Is (.slice A n cap),Is (.int .i64 ((j:Nat):Int)),Is (.pointer (some pz263)),Is (.agg #[.bool sz263,.slice Bz263 (ks.getD j 0) cz263]),Is (.slice B n cap2),Is (.int .i64 ((j:Nat):Int)),Is (.pointer (some pz264)),Is (.agg #[.bool sz264,.slice Bz264 (js.getD j 0) cz264]),T3 (ZR w.heap.size (0)) (ZR w.heap.size (0)) (Is (.int .i64 6)),T3 (ZR w.heap.size (0)) (ZR w.heap.size (0)) (Is (.int .i64 6)),ZR w.heap.size (0),ZR w.heap.size (0),Is (.int .i64 6)] [[],[],[],[],[2,3],[4],[],[],[6,7],[8],[0,1,5,9],[10],[11],[11],[11]] [[],[],[],[],[2,3],[2,3,4],[],[],[6,7],[6,7,8],[0,1,2,3,4,5,6,7,8,9],[0,1,2,3,4,5,6,7,8,9,10],[0,1,2,3,4,5,6,7,8,9,10,11],[0,1,2,3,4,5,6,7,8,9,10,11],[0,1,2,3,4,5,6,7,8,9,10,11],[0,1,2,3,4,5,6,7,8,9,10,11,12],[0,1,2,3,4,5,6,7,8,9,10,11,12,13,15],[0,1,2,3,4,5,6,7,8,9,10,11,12,13,14,15,16]] rfl
     (obs_cons rfl rfl (hob rfl rfl ?_) (obs_cons rfl rfl (hob rfl rfl ?_) (obs_cons rfl rfl (hob rfl rfl ?_) (obs_cons rfl rfl (hob rfl rfl ?_) (obs_cons rfl rfl (hob rfl rfl ?_) (obs_cons rfl rfl (hob rfl rfl ?_) (obs_cons rfl rfl (hob rfl rfl ?_) (obs_cons rfl rfl (hob rfl rfl ?_) (obs_cons rfl rfl (hob rfl rfl ?_) (obs_cons rfl rfl (hob rfl rfl ?_) (obs_cons rfl rfl (hob rfl rfl ?_) (obs_cons rfl rfl (hob rfl rfl ?_) (obs_float rfl rfl (fob rfl ?_) (obs_float rfl rfl (fob rfl ?_) (obs_float rfl rfl (fob rfl ?_) obs_nil))))))))))))))) ?_
    · 
     exact fun _ e274=>deps_nil (lo aggInt (b_4.ext e274) [.bool kr.s,.slice kr.A kr.n kr.c] rfl rfl rfl (pi_done rfl (Ext.refl _) rfl))
    · 
     exact fun _ e276=>deps_nil (lo aggInt (b_5.ext e276) [.bool km.s,.slice km.A km.n km.c] rfl rfl rfl (pi_done rfl (Ext.refl _) rfl))
    · 
     exact fun _ _=>deps_nil (mv 1 rfl (pi_done rfl (Ext.refl _) rfl))
    · 
     exact fun _ _=>deps_nil (mv 1 rfl (pi_done rfl (Ext.refl _) rfl))
    · 
     exact fun _ _=>dk rfl rfl (dk rfl rfl (deps_nil (wl_idx rfl rfl rfl elemI aggInt.size j rfl (by omega) pz263 hpz263 (by decide) (pi_done rfl (Ext.refl _) rfl))))
    · 
     intro v293 e294
     have hw2:=hw1.trans e294
     refine dk rfl rfl (deps_nil (wl_load rfl rfl (ldz263 _ hw2 _ _ aggInt) (by decide) ?_))
     exact pi_done rfl (Ext.refl _) rfl
    · 
     exact fun _ _=>deps_nil (mv 1 rfl (pi_done rfl (Ext.refl _) rfl))
    · 
     exact fun _ _=>deps_nil (mv 1 rfl (pi_done rfl (Ext.refl _) rfl))
    · 
     exact fun _ _=>dk rfl rfl (dk rfl rfl (deps_nil (wl_idx rfl rfl rfl elemI aggInt.size j rfl (by omega) pz264 hpz264 (by decide) (pi_done rfl (Ext.refl _) rfl))))
    · 
     intro v316 e317
     have hw2:=hw1.trans e317
     refine dk rfl rfl (deps_nil (wl_load rfl rfl (ldz264 _ hw2 _ _ aggInt) (by decide) ?_))
     exact pi_done rfl (Ext.refl _) rfl
    · 
     intro v323 e324
     have hw2:=hw1.trans e324
     refine dk rfl rfl (dk rfl rfl (dk rfl rfl (dk rfl rfl (deps_nil (cl (vs:= [.agg #[.bool kr.s,.slice kr.A kr.n kr.c],.agg #[.bool km.s,.slice km.A km.n km.c],.agg #[.bool sz263,.slice Bz263 (ks.getD j 0) cz263],.agg #[.bool sz264,.slice Bz264 (js.getD j 0) cz264]]) hw2 (g_bezout_Crt_none hw2.size (zr.ext e324).zi (zr.le (Nat.le_trans (Nat.le_trans (ln_emod (lcmL_ne h0 j)) (ln_lcmL_le hsum j)) (by decide))) (zm.ext e324).zi (zm.le (Nat.le_trans (ln_lcmL_le hsum j) (by decide))) (ez263.ext hw2) (Nat.le_trans (hkb j) (by decide)) (ez264.ext hw2) (Nat.le_trans (hjb j) (by decide)) hL0 (h0 j (by rw [hm.len];omega)) hd) rfl (by kernel_rfl) fun xr347 v345 r347 e346 hw3=>?_)))))
     obtain⟨_,_,_,rfl,⟨s349,A349,n349,c349,rfl,z349⟩,⟨s350,A350,n350,c350,rfl,z350⟩,rfl⟩:=r347
     exact pi_done rfl e346 ⟨_,_,_,rfl,⟨_,_,_,_,rfl,z349⟩,⟨_,_,_,_,rfl,z350⟩,rfl⟩
    · 
     intro v351 e352
     refine deps_cons rfl rfl fun x353 y354 h355 e356 f357=>?_
     obtain⟨_,_,_,rfl,⟨s359,A359,n359,c359,rfl,z359⟩,⟨s360,A360,n360,c360,rfl,z360⟩,rfl⟩:=h355
     have z359:=z359.ext f357
     have z360:=z360.ext f357
     refine deps_nil (mv 1 rfl ?_)
     exact pi_done rfl (Ext.refl _) ⟨_,_,_,rfl,⟨_,_,_,_,rfl,z359⟩,⟨_,_,_,_,rfl,z360⟩,rfl⟩
    · 
     intro v361 e362
     refine deps_cons rfl rfl fun x363 y364 h365 e366 f367=>?_
     obtain⟨_,_,_,rfl,⟨s369,A369,n369,c369,rfl,z369⟩,⟨s370,A370,n370,c370,rfl,z370⟩,rfl⟩:=h365
     have z369:=z369.ext f367
     have z370:=z370.ext f367
     refine deps_nil ?_
     exact⟨.agg #[.bool s369,.slice A369 n369 c369],rfl,rfl,fun _=>by kernel_rfl,⟨_,_,_,_,rfl,z369⟩⟩
    · 
     intro v371 e372
     refine deps_cons rfl rfl fun x373 y374 h375 e376 f377=>?_
     obtain⟨_,_,_,rfl,⟨s379,A379,n379,c379,rfl,z379⟩,⟨s380,A380,n380,c380,rfl,z380⟩,rfl⟩:=h375
     have z379:=z379.ext f377
     have z380:=z380.ext f377
     refine deps_nil ?_
     exact⟨.agg #[.bool s380,.slice A380 n380 c380],rfl,rfl,fun _=>by kernel_rfl,⟨_,_,_,_,rfl,z380⟩⟩
    · 
     intro v381 e382
     refine deps_cons rfl rfl fun x383 y384 h385 e386 f387=>?_
     obtain⟨_,_,_,rfl,⟨s389,A389,n389,c389,rfl,z389⟩,⟨s390,A390,n390,c390,rfl,z390⟩,rfl⟩:=h385
     have z389:=z389.ext f387
     have z390:=z390.ext f387
     refine deps_nil ?_
     exact⟨.int .i64 6,rfl,rfl,fun _=>by kernel_rfl,rfl⟩
    · 
     intro v391 e392
     have hw2:=hw1.trans e392
     refine dk rfl rfl (dk rfl rfl (dk rfl rfl (dk rfl rfl (dk rfl rfl (dk rfl rfl (dk rfl rfl (dk rfl rfl (dk rfl rfl (dk rfl rfl (deps_cons rfl rfl fun x443 y444 h445 e446 f447=>?_))))))))))
     obtain⟨_,_,_,rfl,⟨s449,A449,n449,c449,rfl,z449⟩,⟨s450,A450,n450,c450,rfl,z450⟩,rfl⟩:=h445
     have z449:=z449.ext f447
     have z450:=z450.ext f447
     refine deps_cons rfl rfl fun x451 y452 h453 e454 f455=>?_
     obtain⟨_,_,_,rfl,⟨s457,A457,n457,c457,rfl,z457⟩,⟨s458,A458,n458,c458,rfl,z458⟩,rfl⟩:=h453
     have z457:=z457.ext f455
     have z458:=z458.ext f455
     refine deps_cons rfl rfl fun x459 y460 h461 e462 f463=>?_
     obtain⟨s464,A464,n464,c464,rfl,z464⟩:=h461
     have z464:=z464.ext f463
     refine deps_cons rfl rfl fun x465 y466 h467 e468 f469=>?_
     obtain⟨s470,A470,n470,c470,rfl,z470⟩:=h467
     have z470:=z470.ext f469
     refine dk rfl rfl (deps_nil ?_)
     have hb477:=(b_4.ext e392)
     refine so aggInt hb477 [.bool s464,.slice A464 n464 c464] hw2 ge5 rfl rfl rfl rfl fun v476 hb478 u479 hw3=>?_
     have hb482:=((b_5.ext e392).updN u479 (by omega))
     refine so aggInt hb482 [.bool s470,.slice A470 n470 c470] hw3 ge10 rfl rfl rfl rfl fun v481 hb483 u484 hw4=>(mv 1 rfl (wl_nil (eo_np (eo_then (sr (mv 1 rfl (wl_cmp rfl rfl rfl true (by decide) (by decide) (ne_ (cw_true rfl (sr (pu (v:= .agg #[F0,S0]) rfl (by kernel_rfl) (pu (v:= .agg #[F0,S0]) rfl (by kernel_rfl) (mv 1 rfl ?_)))))))))))))
     have hb487:=(hb478.updN u484 (by omega))
     refine so aggInt hb487 [F0,S0] hw4 ge5 rfl rfl rfl rfl fun v486 hb488 u489 hw5=>?_
     have hb492:=(hb483.updN u489 (by omega))
     refine so aggInt hb492 [F0,S0] hw5 ge10 rfl rfl rfl rfl fun v491 hb493 u494 hw6=>(mv 1 rfl (ne_ (cw_ret (eo_block_ret (eo_thenR (eo_loopR (eo_block_ret (eo_thenR (eo_ret [.agg #[F0,S0],.agg #[F0,S0],.int .i64 6] rfl ⟨⟨_,rfl,load_agg aggInt (hb488.updN u494 (by omega)) [F0,S0] rfl (bq rfl) rfl⟩,⟨_,rfl,load_agg aggInt hb493 [F0,S0] rfl (bq rfl) rfl⟩,rfl,trivial⟩ ?_)))))))))
     exact⟨_,rfl,⟨_,_,_,rfl,⟨_,_,_,_,rfl,((((Zr.zero (w:=v481) (base:=w.heap.size)).updT hb487 u489).updT hb492 u494)).mono hb⟩,⟨_,_,_,_,rfl,((((Zr.zero (w:=v481) (base:=w.heap.size)).updT hb487 u489).updT hb492 u494)).mono hb⟩,rfl⟩,hw6⟩
  · 
   have hjn:j=n:=by omega
   exact absurd ⟨s,fun i hi=>hs i (by omega)⟩ hno
set_option maxHeartbeats 4000000 in
theorem g_bezout_CrtAll_ok {w:World}{b:Nat}(hb:b≤w.heap.size){A B:Option Addr}{n cap cap2:Nat}{rs ms:List Int}{ks js:List Nat}(hr:Zl w A n cap rs ks) (hm:Zl w B n cap2 ms js) (hn:n≤2097152) (hkb:∀i,ks.getD i 0≤16777216) (hjb:∀i,js.getD i 0≤16777216) (hsum:(ms.map ln).sum≤1048576) (h0:∀i,i<ms.length→ms.getD i 0≠0){s:Int}(hs:∀i,i<ms.length→ms.getD i 0∣rs.getD i 0-s):
    Calls Tryz.prog 51 #[.slice A n cap,.slice B n cap2] w (Gv w (T3 (ZR b (s%lcmL ms)) (ZR b (lcmL ms)) (Is (.int .i64 0)))):=by
 refine sx_enter Tryz.func51 rfl (n:=58) rfl (bq rfl) (args:= [.slice A n cap,.slice B n cap2]) (cw_keep [(0,.slice A n cap),(1,.slice B n cap2)] ⟨rfl,rfl,trivial⟩ (sr (al [F0,S0] (Ext.refl w) (fun _=>by kernel_rfl) rfl fun g1 v2 hb4 ge5 e3 hw1=>(alq [F0,S0] hw1 hb4.lt (fun _=>by kernel_rfl) rfl fun g6 v7 hb9 ge10 q11 e8 hw2=>(mv 1 rfl (ne_ (cw_seq (sr (mv 1 rfl (pu (v:= .int .i64 ((n:Nat):Int)) rfl (by kernel_rfl) (mv 1 rfl (pu (v:= .int .i64 ((n:Nat):Int)) rfl (by kernel_rfl) (wl_cmp rfl rfl rfl false (cb_ne_f (a:=n) (b:=n) rfl rfl (by omega)) (by decide) ?_)))))))))))))
 refine ne_ (cw_false rfl (cw_skip (eo_then (cw_seq (sr (mv 1 rfl (pu (v:= .int .i64 ((n:Nat):Int)) rfl (by kernel_rfl) (mv 1 rfl (ne_ (cw_block ?_))))))))))
 refine cw_loop (T:=World×Nat)
  (fun⟨wr,k⟩=> [(0,.slice A n cap),(1,.slice B n cap2),(4,.pointer (some ⟨g1,0,none⟩)),(5,.pointer (some ⟨g6,0,none⟩)),(6,.int .i64 0),(17,.slice B n cap2),(18,.int .i64 ((n:Nat):Int)),(19,.int .i64 ((k:Nat):Int))])
  (fun⟨wr,k⟩=>wr)
  (fun⟨wr,k⟩=>(Ext w wr)∧(k≤n)∧(∀i,i<k→ms.getD i 0≠0)∧(Bk wr g1 27 [F0,S0])∧(Bk wr g6 27 [F0,S0]))
  (fun⟨wr,k⟩=>n-k)
  (⟨v7,0⟩:World×Nat) ⟨hw2,Nat.zero_le _,(fun i hi=>by omega),(hb4.ext e8),hb9⟩ rfl ⟨rfl,rfl,rfl,rfl,rfl,rfl,rfl,rfl,trivial⟩ ?_
 rintro⟨wr,k⟩ ⟨hw1,hk,hz,b_4,b_5⟩
 refine cw_re [(0,.slice A n cap),(1,.slice B n cap2),(4,.pointer (some ⟨g1,0,none⟩)),(5,.pointer (some ⟨g6,0,none⟩)),(6,.int .i64 0),(17,.slice B n cap2),(18,.int .i64 ((n:Nat):Int)),(19,.int .i64 ((k:Nat):Int))] wr rfl ⟨rfl,rfl,rfl,rfl,rfl,rfl,rfl,rfl,trivial⟩ (cw_seq ?_)
 by_cases hkn:k<n
 · 
  refine cw_region (wl_cmp rfl rfl rfl true (cb_lt_t (a:=k) (b:=n) rfl rfl (by omega)) (by decide) (ne_ (cw_seq (cw_true rfl (cw_skip (eo_then (cw_seq (cw_block (sr ?_)))))))))
  obtain⟨pz12,sz12,Bz12,cz12,hpz12,ldz12,ez12⟩:=hm.at (i:=k) (by omega)
  refine wl_idx rfl rfl rfl elemI aggInt.size k rfl (by omega) pz12 hpz12 (by decide) (wl_load rfl rfl (ldz12 _ hw1 _ _ aggInt) (by decide) (alq [F0,S0] hw1 b_5.lt (fun _=>by kernel_rfl) rfl fun g13 v14 hb16 ge17 q18 e15 hw2=>(so aggInt hb16 [.bool sz12,.slice Bz12 (js.getD k 0) cz12] hw2 ge17 rfl rfl rfl rfl fun v19 hb21 u22 hw3=>(ne_ (cw_seq ?_)))))
  have hz0:ms.getD k 0≠0:=h0 k (by rw [hm.len];omega)
  refine cw_region (lo aggInt hb21 [.bool sz12,.slice Bz12 (js.getD k 0) cz12] rfl rfl rfl (cl (vs:= [.agg #[.bool sz12,.slice Bz12 (js.getD k 0) cz12]]) hw3 (g_zint_Sign (ez12.ext hw3) (Nat.le_trans (hjb k) (by decide))) rfl (by kernel_rfl) fun xr26 v24 r26 e25 hw4=>?_))
  obtain rfl:=r26
  refine wl_cmp rfl rfl rfl false (scmp_eq_f hz0) (by decide) (ne_ (cw_false rfl (cw_skip (eo_block_normal (eo_then (cw_region (wl_ar rfl rfl rfl ((k+1:Nat):Int) (ai_add (a:=k) (b:=1) rfl rfl (by omega)) (by decide) (mv 1 rfl (wl_nil (eo_round (⟨v24,k+1⟩:World×Nat) ⟨hw4,(by omega),(fun i hi=>if h:i<k then hz i h else (show i=k by omega)▸hz0),(((b_4.ext e15).updN u22 (by omega)).ext e25),(((b_5.ext e15).updN u22 (by omega)).ext e25)⟩ (show n-(k+1)<n-k by omega) rfl ⟨rfl,rfl,rfl,rfl,rfl,rfl,rfl,rfl,trivial⟩))))))))))
 · 
  refine cw_region (wl_cmp rfl rfl rfl false (cb_lt_f (a:=k) (b:=n) rfl rfl (by omega)) (by decide) (ne_ (cw_seq (cw_false rfl (cw_exit (eo_thenX (eo_loopX (eo_block_here (eo_then (sr (cl (vs:= [.int .i64 1]) hw1 (g_zint_Of hw1.size (by decide) (by decide)) rfl (by kernel_rfl) fun xr29 v27 r29 e28 hw2=>?_)))))))))))
  obtain⟨s30,A30,n30,c30,rfl,z30⟩:=r29
  have hb32:=(b_5.ext e28)
  refine so aggInt hb32 [.bool s30,.slice A30 n30 c30] hw2 ge10 rfl rfl rfl rfl fun v31 hb33 u34 hw3=>(ne_ (cw_seq (sr (mv 1 rfl (pu (v:= .int .i64 ((n:Nat):Int)) rfl (by kernel_rfl) (mv 1 rfl (ne_ (cw_block ?_))))))))
  refine cw_loop (T:=World×Nat×ZC×ZC)
   (fun⟨wq,j,kr,km⟩=> [(0,.slice A n cap),(1,.slice B n cap2),(4,.pointer (some ⟨g1,0,none⟩)),(5,.pointer (some ⟨g6,0,none⟩)),(6,.int .i64 0),(31,.int .i64 ((n:Nat):Int)),(32,.int .i64 ((j:Nat):Int))])
   (fun⟨wq,j,kr,km⟩=>wq)
   (fun⟨wq,j,kr,km⟩=>(Ext w wq)∧(j≤n)∧(Bk wq g1 27 [.bool kr.s,.slice kr.A kr.n kr.c])∧(Bk wq g6 27 [.bool km.s,.slice km.A km.n km.c])∧(Zr wq w.heap.size kr.s kr.A kr.n kr.c (s%lcmL (ms.take j)))∧(Zr wq w.heap.size km.s km.A km.n km.c (lcmL (ms.take j))))
   (fun⟨wq,j,kr,km⟩=>n-j)
   (⟨v31,0,⟨false,none,0,0⟩,⟨s30,A30,n30,c30⟩⟩:World×Nat×ZC×ZC) ⟨hw3,Nat.zero_le _,((b_4.ext e28).updN u34 (by omega)),hb33,(Zr.zero.cast (by rw [List.take_zero];exact (Int.emod_one _).symm)),((z30.updT hb32 u34)).cast (by rfl)⟩ rfl ⟨rfl,rfl,rfl,rfl,rfl,rfl,rfl,trivial⟩ ?_
  rintro⟨wq,j,kr,km⟩ ⟨hw1,hj,b_4,b_5,zr,zm⟩
  refine cw_re [(0,.slice A n cap),(1,.slice B n cap2),(4,.pointer (some ⟨g1,0,none⟩)),(5,.pointer (some ⟨g6,0,none⟩)),(6,.int .i64 0),(31,.int .i64 ((n:Nat):Int)),(32,.int .i64 ((j:Nat):Int))] wq rfl ⟨rfl,rfl,rfl,rfl,rfl,rfl,rfl,trivial⟩ (cw_seq ?_)
  by_cases hjn0:j<n
  · 
   refine cw_region (wl_cmp rfl rfl rfl true (cb_lt_t (a:=j) (b:=n) rfl rfl (by omega)) (by decide) (ne_ (cw_seq (cw_true rfl (cw_skip (eo_then (cw_seq (cw_block (sr (mv 2 rfl (ne_ (cw_seq ?_))))))))))))
   have hL0:lcmL (ms.take j)≠0:=lcmL_ne h0 j
   obtain⟨pz36,sz36,Bz36,cz36,hpz36,ldz36,ez36⟩:=hr.at (i:=j) (by omega)
   obtain⟨pz37,sz37,Bz37,cz37,hpz37,ldz37,ez37⟩:=hm.at (i:=j) (by omega)
   have L38:ln ((Int.lcm (lcmL (ms.take j)) (ms.getD j 0):Int))≤1048577:=(by rw [lcmL_succ (by rw [hm.len];omega)];exact ln_lcmL_le hsum (j+1))
   have L39:ln (s%(Int.lcm (lcmL (ms.take j)) (ms.getD j 0):Int))≤1048577:=Nat.le_trans (ln_emod (lcm_ne hL0 (h0 j (by rw [hm.len];omega)))) L38
   refine cw_draw mix 15 [12,13,14] [Is (.agg #[.bool kr.s,.slice kr.A kr.n kr.c]),Is (.agg #[.bool km.s,.slice km.A km.n km.c]),Is (.slice A n cap),Is (.int .i64 ((j:Nat):Int)),Is (.pointer (some pz36)),Is (.agg #[.bool sz36,.slice Bz36 (ks.getD j 0) cz36]),Is (.slice B n cap2),Is (.int .i64 ((j:Nat):Int)),Is (.pointer (some pz37)),Is (.agg #[.bool sz37,.slice Bz37 (js.getD j 0) cz37]),T3 (ZR w.heap.size (s%(Int.lcm (lcmL (ms.take j)) (ms.getD j 0):Int))) (ZR w.heap.size ((Int.lcm (lcmL (ms.take j)) (ms.getD j 0):Int))) (Is (.int .i64 0)),T3 (ZR w.heap.size (s%(Int.lcm (lcmL (ms.take j)) (ms.getD j 0):Int))) (ZR w.heap.size ((Int.lcm (lcmL (ms.take j)) (ms.getD j 0):Int))) (Is (.int .i64 0)),ZR w.heap.size (s%(Int.lcm (lcmL (ms.take j)) (ms.getD j 0):Int)),ZR w.heap.size ((Int.lcm (lcmL (ms.take j)) (ms.getD j 0):Int)),Is (.int .i64 0)] [[],[],[],[],[2,3],[4],[],[],[6,7],[8],[0,1,5,9],[10],[11],[11],[11]] [[],[],[],[],[2,3],[2,3,4],[],[],[6,7],[6,7,8],[0,1,2,3,4,5,6,7,8,9],[0,1,2,3,4,5,6,7,8,9,10],[0,1,2,3,4,5,6,7,8,9,10,11],[0,1,2,3,4,5,6,7,8,9,10,11],[0,1,2,3,4,5,6,7,8,9,10,11],[0,1,2,3,4,5,6,7,8,9,10,11,12],[0,1,2,3,4,5,6,7,8,9,10,11,12,13,15],[0,1,2,3,4,5,6,7,8,9,10,11,12,13,14,15,16]] rfl
    (obs_cons rfl rfl (hob rfl rfl ?_) (obs_cons rfl rfl (hob rfl rfl ?_) (obs_cons rfl rfl (hob rfl rfl ?_) (obs_cons rfl rfl (hob rfl rfl ?_) (obs_cons rfl rfl (hob rfl rfl ?_) (obs_cons rfl rfl (hob rfl rfl ?_) (obs_cons rfl rfl (hob rfl rfl ?_) (obs_cons rfl rfl (hob rfl rfl ?_) (obs_cons rfl rfl (hob rfl rfl ?_) (obs_cons rfl rfl (hob rfl rfl ?_) (obs_cons rfl rfl (hob rfl rfl ?_) (obs_cons rfl rfl (hob rfl rfl ?_) (obs_float rfl rfl (fob rfl ?_) (obs_float rfl rfl (fob rfl ?_) (obs_float rfl rfl (fob rfl ?_) obs_nil))))))))))))))) ?_
   · 
    exact fun _ e49=>deps_nil (lo aggInt (b_4.ext e49) [.bool kr.s,.slice kr.A kr.n kr.c] rfl rfl rfl (pi_done rfl (Ext.refl _) rfl))
   · 
    exact fun _ e51=>deps_nil (lo aggInt (b_5.ext e51) [.bool km.s,.slice km.A km.n km.c] rfl rfl rfl (pi_done rfl (Ext.refl _) rfl))
   · 
    exact fun _ _=>deps_nil (mv 1 rfl (pi_done rfl (Ext.refl _) rfl))
   · 
    exact fun _ _=>deps_nil (mv 1 rfl (pi_done rfl (Ext.refl _) rfl))
   · 
    exact fun _ _=>dk rfl rfl (dk rfl rfl (deps_nil (wl_idx rfl rfl rfl elemI aggInt.size j rfl (by omega) pz36 hpz36 (by decide) (pi_done rfl (Ext.refl _) rfl))))
   · 
    intro v68 e69
    have hw2:=hw1.trans e69
    refine dk rfl rfl (deps_nil (wl_load rfl rfl (ldz36 _ hw2 _ _ aggInt) (by decide) ?_))
    exact pi_done rfl (Ext.refl _) rfl
   · 
    exact fun _ _=>deps_nil (mv 1 rfl (pi_done rfl (Ext.refl _) rfl))
   · 
    exact fun _ _=>deps_nil (mv 1 rfl (pi_done rfl (Ext.refl _) rfl))
   · 
    exact fun _ _=>dk rfl rfl (dk rfl rfl (deps_nil (wl_idx rfl rfl rfl elemI aggInt.size j rfl (by omega) pz37 hpz37 (by decide) (pi_done rfl (Ext.refl _) rfl))))
   · 
    intro v91 e92
    have hw2:=hw1.trans e92
    refine dk rfl rfl (deps_nil (wl_load rfl rfl (ldz37 _ hw2 _ _ aggInt) (by decide) ?_))
    exact pi_done rfl (Ext.refl _) rfl
   · 
    intro v98 e99
    have hw2:=hw1.trans e99
    refine dk rfl rfl (dk rfl rfl (dk rfl rfl (dk rfl rfl (deps_nil ?_))))
    have L120:ln ((Int.lcm (lcmL (ms.take j)) (ms.getD j 0):Int))≤1048577:=(by rw [lcmL_succ (by rw [hm.len];omega)];exact ln_lcmL_le hsum (j+1))
    have L121:ln (s%(Int.lcm (lcmL (ms.take j)) (ms.getD j 0):Int))≤1048577:=Nat.le_trans (ln_emod (lcm_ne hL0 (h0 j (by rw [hm.len];omega)))) L120
    refine cl (vs:= [.agg #[.bool kr.s,.slice kr.A kr.n kr.c],.agg #[.bool km.s,.slice km.A km.n km.c],.agg #[.bool sz36,.slice Bz36 (ks.getD j 0) cz36],.agg #[.bool sz37,.slice Bz37 (js.getD j 0) cz37]]) hw2 (g_bezout_Crt_ok hw2.size (zr.ext e99).zi (zr.le (Nat.le_trans (Nat.le_trans (ln_emod (lcmL_ne h0 j)) (ln_lcmL_le hsum j)) (by decide))) (zm.ext e99).zi (zm.le (Nat.le_trans (ln_lcmL_le hsum j) (by decide))) (ez36.ext hw2) (Nat.le_trans (hkb j) (by decide)) (ez37.ext hw2) (Nat.le_trans (hjb j) (by decide)) hL0 (h0 j (by rw [hm.len];omega)) (dvd_emod_sub s _) (hs j (by rw [hm.len];omega))) rfl (by kernel_rfl) fun xr124 v122 r124 e123 hw3=>?_
    obtain⟨_,_,_,rfl,⟨s126,A126,n126,c126,rfl,z126⟩,⟨s127,A127,n127,c127,rfl,z127⟩,rfl⟩:=r124
    exact pi_done rfl e123 ⟨_,_,_,rfl,⟨_,_,_,_,rfl,z126⟩,⟨_,_,_,_,rfl,z127⟩,rfl⟩
   · 
    intro v128 e129
    refine deps_cons rfl rfl fun x130 y131 h132 e133 f134=>?_
    obtain⟨_,_,_,rfl,⟨s136,A136,n136,c136,rfl,z136⟩,⟨s137,A137,n137,c137,rfl,z137⟩,rfl⟩:=h132
    have z136:=z136.ext f134
    have z137:=z137.ext f134
    refine deps_nil (mv 1 rfl ?_)
    exact pi_done rfl (Ext.refl _) ⟨_,_,_,rfl,⟨_,_,_,_,rfl,z136⟩,⟨_,_,_,_,rfl,z137⟩,rfl⟩
   · 
    intro v138 e139
    refine deps_cons rfl rfl fun x140 y141 h142 e143 f144=>?_
    obtain⟨_,_,_,rfl,⟨s146,A146,n146,c146,rfl,z146⟩,⟨s147,A147,n147,c147,rfl,z147⟩,rfl⟩:=h142
    have z146:=z146.ext f144
    have z147:=z147.ext f144
    refine deps_nil ?_
    exact⟨.agg #[.bool s146,.slice A146 n146 c146],rfl,rfl,fun _=>by kernel_rfl,⟨_,_,_,_,rfl,z146⟩⟩
   · 
    intro v148 e149
    refine deps_cons rfl rfl fun x150 y151 h152 e153 f154=>?_
    obtain⟨_,_,_,rfl,⟨s156,A156,n156,c156,rfl,z156⟩,⟨s157,A157,n157,c157,rfl,z157⟩,rfl⟩:=h152
    have z156:=z156.ext f154
    have z157:=z157.ext f154
    refine deps_nil ?_
    exact⟨.agg #[.bool s157,.slice A157 n157 c157],rfl,rfl,fun _=>by kernel_rfl,⟨_,_,_,_,rfl,z157⟩⟩
   · 
    intro v158 e159
    refine deps_cons rfl rfl fun x160 y161 h162 e163 f164=>?_
    obtain⟨_,_,_,rfl,⟨s166,A166,n166,c166,rfl,z166⟩,⟨s167,A167,n167,c167,rfl,z167⟩,rfl⟩:=h162
    have z166:=z166.ext f164
    have z167:=z167.ext f164
    refine deps_nil ?_
    exact⟨.int .i64 0,rfl,rfl,fun _=>by kernel_rfl,rfl⟩
   · 
    intro v168 e169
    have hw2:=hw1.trans e169
    refine dk rfl rfl (dk rfl rfl (dk rfl rfl (dk rfl rfl (dk rfl rfl (dk rfl rfl (dk rfl rfl (dk rfl rfl (dk rfl rfl (dk rfl rfl (deps_cons rfl rfl fun x220 y221 h222 e223 f224=>?_))))))))))
    obtain⟨_,_,_,rfl,⟨s226,A226,n226,c226,rfl,z226⟩,⟨s227,A227,n227,c227,rfl,z227⟩,rfl⟩:=h222
    have z226:=z226.ext f224
    have z227:=z227.ext f224
    refine deps_cons rfl rfl fun x228 y229 h230 e231 f232=>?_
    obtain⟨_,_,_,rfl,⟨s234,A234,n234,c234,rfl,z234⟩,⟨s235,A235,n235,c235,rfl,z235⟩,rfl⟩:=h230
    have z234:=z234.ext f232
    have z235:=z235.ext f232
    refine deps_cons rfl rfl fun x236 y237 h238 e239 f240=>?_
    obtain⟨s241,A241,n241,c241,rfl,z241⟩:=h238
    have z241:=z241.ext f240
    refine deps_cons rfl rfl fun x242 y243 h244 e245 f246=>?_
    obtain⟨s247,A247,n247,c247,rfl,z247⟩:=h244
    have z247:=z247.ext f246
    refine dk rfl rfl (deps_nil ?_)
    have hb254:=(b_4.ext e169)
    refine so aggInt hb254 [.bool s241,.slice A241 n241 c241] hw2 ge5 rfl rfl rfl rfl fun v253 hb255 u256 hw3=>?_
    have hb259:=((b_5.ext e169).updN u256 (by omega))
    refine so aggInt hb259 [.bool s247,.slice A247 n247 c247] hw3 ge10 rfl rfl rfl rfl fun v258 hb260 u261 hw4=>(mv 1 rfl (wl_nil (eo_np (eo_then (sr (mv 1 rfl (wl_cmp rfl rfl rfl false (by decide) (by decide) (ne_ (cw_false rfl (cw_skip (eo_block_normal (eo_then (cw_region ?_)))))))))))))
    refine wl_ar rfl rfl rfl ((j+1:Nat):Int) (ai_add (a:=j) (b:=1) rfl rfl (by omega)) (by decide) (mv 1 rfl (wl_nil (eo_round (⟨v258,j+1,⟨s241,A241,n241,c241⟩,⟨s247,A247,n247,c247⟩⟩:World×Nat×ZC×ZC) ⟨hw4,(by omega),(hb255.updN u261 (by omega)),hb260,(((z241.updT hb254 u256).updT hb259 u261)).cast (by rw [lcmL_succ (by rw [hm.len];omega)]),(((z247.updT hb254 u256).updT hb259 u261)).cast (lcmL_succ (by rw [hm.len];omega))⟩ (show n-(j+1)<n-j by omega) rfl ⟨rfl,rfl,rfl,rfl,rfl,rfl,rfl,trivial⟩)))
  · 
   have hjn:j=n:=by omega
   refine cw_region (wl_cmp rfl rfl rfl false (cb_lt_f (a:=j) (b:=n) rfl rfl (by omega)) (by decide) (ne_ (cw_seq (cw_false rfl (cw_exit (eo_thenX (eo_loopX (eo_block_here (eo_then (cw_seq (cw_keep [(0,.slice A n cap),(1,.slice B n cap2),(4,.pointer (some ⟨g1,0,none⟩)),(5,.pointer (some ⟨g6,0,none⟩)),(31,.int .i64 ((n:Nat):Int)),(32,.int .i64 ((j:Nat):Int)),(33,.bool false)] ⟨rfl,rfl,rfl,rfl,rfl,rfl,rfl,trivial⟩ ?_)))))))))))
   obtain⟨v263,hv,e264⟩:∃v,v=wq.drew∧Ext wq v:=⟨_,rfl,(Ext.refl _).drew⟩
   have hw2:=hw1.trans e264
   have hb266:=(b_4.ext e264)
   obtain⟨v265,hr270,hb267,u268,hs269⟩:=run_stored (P:=Tryz.prog) (us:= [.bool kr.s,.slice kr.A kr.n kr.c]) (off:=0) aggInt rfl hb266 (bq rfl) rfl [.bool kr.s,.slice kr.A kr.n kr.c] rfl
   have hw3:=u268.ext hw2 ge5
   have hb272:=((b_5.ext e264).updN u268 (by omega))
   obtain⟨v271,hr276,hb273,u274,hs275⟩:=run_stored (P:=Tryz.prog) (us:= [.bool km.s,.slice km.A km.n km.c]) (off:=0) aggInt rfl hb272 (bq rfl) rfl [.bool km.s,.slice km.A km.n km.c] rfl
   have hw4:=u274.ext hw3 ge10
   refine cw_det mix (w:=v263) [.agg #[.bool kr.s,.slice kr.A kr.n kr.c],.agg #[.bool km.s,.slice km.A km.n km.c],undef,undef,I0] [v263,v265,v271] [2,3] [[],[],[0],[1],[]] [[],[],[0],[0,1,2],[0,1,2,3]] [(0,0),(1,0),(1,1),(2,0),(3,1),(4,2)] rfl hv ?_ ?_
   · 
    refine dobs_val _ rfl rfl rfl rfl rfl (rd_load rfl (load_agg aggInt (b_4.ext e264) [.bool kr.s,.slice kr.A kr.n kr.c] rfl (bq rfl) rfl)) (dobs_val _ rfl rfl rfl rfl rfl (rd_load rfl (load_agg aggInt (b_5.ext e264) [.bool km.s,.slice km.A km.n km.c] rfl (bq rfl) rfl)) (dobs_val _ rfl rfl rfl rfl rfl (rd_load rfl (load_agg aggInt ((b_5.ext e264).updN u268 (by omega)) [.bool km.s,.slice km.A km.n km.c] rfl (bq rfl) rfl)) (dobs_sto _ rfl rfl rfl rfl rfl (rd_store rfl rfl hr270) (dobs_sto _ rfl rfl rfl rfl rfl (rd_store rfl rfl hr276) (dobs_val _ rfl rfl rfl rfl rfl (rd_assign rfl) ?_)))))
    exact dobs_nil
   clear hv
   refine eo_keep [(0,.slice A n cap),(1,.slice B n cap2),(4,.pointer (some ⟨g1,0,none⟩)),(5,.pointer (some ⟨g6,0,none⟩)),(31,.int .i64 ((n:Nat):Int)),(32,.int .i64 ((j:Nat):Int)),(33,.bool false),(56,.agg #[.bool kr.s,.slice kr.A kr.n kr.c]),(57,.agg #[.bool km.s,.slice km.A km.n km.c]),(6,.int .i64 0)] ⟨rfl,rfl,rfl,rfl,rfl,rfl,rfl,rfl,rfl,rfl,trivial⟩ (eo_then (cw_ret (eo_ret [.agg #[.bool kr.s,.slice kr.A kr.n kr.c],.agg #[.bool km.s,.slice km.A km.n km.c],I0] rfl ⟨⟨_,rfl,load_agg aggInt (hb267.updN u274 (by omega)) [.bool kr.s,.slice kr.A kr.n kr.c] rfl (bq rfl) rfl⟩,⟨_,rfl,load_agg aggInt hb273 [.bool km.s,.slice km.A km.n km.c] rfl (bq rfl) rfl⟩,rfl,trivial⟩ ?_)))
   have hfull:ms.take j=ms:=by rw [hjn,zl_full hm]
   exact⟨_,rfl,⟨_,_,_,rfl,⟨_,_,_,_,rfl,(((((zr.ext e264).updT hb266 u268).updT hb272 u274)).cast (by rw [hfull])).mono hb⟩,⟨_,_,_,_,rfl,(((((zm.ext e264).updT hb266 u268).updT hb272 u274)).cast (by rw [hfull])).mono hb⟩,rfl⟩,hw4⟩
end Go.Proofs.YtgilhcdglaneiaaGreat
