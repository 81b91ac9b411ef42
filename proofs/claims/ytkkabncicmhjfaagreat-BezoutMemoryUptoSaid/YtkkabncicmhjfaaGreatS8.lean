/- Parts Bm8, Of5, Bm9, joined. -/
import Derived.Test.YtkkabncicmhjfaaGreatS7

open Go renaming Addr → aG, Calls → aQ, World → a7
open List renaming getElem?_eq_getElem → cA, getElem?_eq_none → gM, length_append → fH, range → dB
open Nat renaming add_zero → eI, le_refl → aS, le_trans → a6, lt_of_lt_of_le → d4, zero_le → bJ
open Go.Proofs.Tryz renaming prog → aM
namespace Go.Proofs.YtkkabncicmhjfaaGreat
set_option maxHeartbeats 16000000
set_option maxRecDepth 20000
variable {A AL AM Aa Ab Ad Ae:Option aG}{b c1 c2 ca cap cb cd ce i n1 n2 na nd:Nat}{k n t x y:Int}{ms ns:List Nat}{sa sb sd se:Bool}{w:a7}{ys zs:List Int}
open Go.RowKit
theorem Q7 {xs ys ds es:List Nat}{σ τ:Nat→Bool}{ω υ:Nat→List Nat}(hx:Rd w Aa xs.length ca xs)(la:xs.length≤1048576)(hy:Rd w Ab ys.length cb ys)(lb:ys.length≤1048576)(hz:Rd w Ad ds.length cd ds)(ld:ds.length≤1048576)(hu:Rd w Ae es.length ce es)(le:es.length≤1048576)(hl1:Zw w AL n1 c1 σ ω)(hs1:(fJ n1 ω).sum≤1048576)(hl2:Zw w AM n2 c2 τ υ)(hs2:(fJ n2 υ).sum≤1048576)(hm1:n1≤524288)(hm2:n2≤524288):aQ aM 6 #[.agg #[v4 k,.bool sa,AT Aa xs.length ca,.bool sb,AT Ab ys.length cb,.bool sd,AT Ad ds.length cd,.bool se,AT Ae es.length ce,AT AL n1 c1,AT AM n2 c2]] w (Gv w (Is (By))):=by
 have ej:n1≤1048576:=a6 hm1 (by decide)
 have fj:n2≤1048576:=a6 hm2 (by decide)
 obtain⟨S1,oh⟩:∃S,d8 k (sg sa (nv xs)) (sg sb (nv ys)) (sg sd (nv ds)) (sg se (nv es)) (f9 n1 σ ω) (f9 n2 τ υ) n1 n2=S:=⟨_,rfl⟩
 have kw:S1.n≤1048576:=by rw [←oh];exact wX ej
 have lp:S1.n≤524288:=by rw [←oh];exact wW hm1
 have Dg:Op6 w k (sg sa (nv xs)) (sg sb (nv ys)) (sg sd (nv ds)) (sg se (nv es)) (f9 n1 σ ω) (f9 n2 τ υ) n1 n2 (.agg #[v4 k,.bool sa,AT Aa xs.length ca,.bool sb,AT Ab ys.length cb,.bool sd,AT Ad ds.length cd,.bool se,AT Ae es.length ce,AT AL n1 c1,AT AM n2 c2]):=⟨_,_,_,_,_,_,_,_,_,_,_,_,_,_,_,_,_,_,_,_,_,_,rfl,⟨xs,hx,rfl⟩,la,⟨ys,hy,rfl⟩,lb,⟨ds,hz,rfl⟩,ld,⟨es,hu,rfl⟩,le,hl1.zl,hs1,hl2.zl,hs2,ej,fj⟩
 refine bP Tryz.func6 G (n:=177) G (bq G) (args:= [.agg #[v4 k,.bool sa,AT Aa xs.length ca,.bool sb,AT Ab ys.length cb,.bool sd,AT Ad ds.length cd,.bool se,AT Ae es.length ce,AT AL n1 c1,AT AM n2 c2]]) (bH [(0,.agg #[v4 k,.bool sa,AT Aa xs.length ca,.bool sb,AT Ab ys.length cb,.bool sd,AT Ad ds.length cd,.bool se,AT Ae es.length ce,AT AL n1 c1,AT AM n2 c2])] ⟨rfl,Fo⟩ (sr (mB G G (vs:= [v4 k,.bool sa,AT Aa xs.length ca,.bool sb,AT Ab ys.length cb,.bool sd,AT Ad ds.length cd,.bool se,AT Ae es.length ce,AT AL n1 c1,AT AM n2 c2]) G fun g1 _ nb=>?_)))
 have gw_g1:w.heap.size≤g1:=by rw [←nb.at_];exact aS _
 have ei:=nb.bk
 have Gd:w.heap.size≤g1:=by rw [←nb.at_];exact (Ext.refl w).size
 have e3:=nb.ext
 clear nb
 have bm:=(Ext.refl w).trans e3
 refine mv 1 G (aA (sr (pf g1 1 G (lo a8 ei (O sa Aa xs.length ca) G G G (pf g1 3 G (lo a8 ei (O sb Ab ys.length cb) G G G (pf g1 5 G (lo a8 ei (O sd Ad ds.length cd) G G G (pf g1 7 G (lo a8 ei (O se Ae es.length ce) G G G (fA G G (k:=4) (e:=24) [.bool sa,AT Aa xs.length ca,.bool sb,AT Ab ys.length cb,.bool sd,AT Ad ds.length cd,.bool se,AT Ae es.length ce] (fun _=>by kernel_rfl) fun g6 _ nb=>?_)))))))))))
 have Ef:=nb.bk
 have Fa:w.heap.size≤g6:=by rw [←nb.at_];exact bm.size
 have fq:=nb.ext
 clear nb
 have ch:=bm.trans fq
 have Bw:=Own.mk_ (s:=2) Fa Ef (aS 4) (by rw [eB];decide) G rfl
 have ji:=RZ (sa:=sa) (sb:=sb) (sd:=sd) (se:=se) hx hy hz hu
 refine mv 1 G (aA (sr (mv 1 G (pf g1 9 G (aP G G (bA (fun _=>by kernel_rfl) (ei.ext fq) G) ?_)))))
 have dl:=Bw
 refine AV (w0:=w) G G G dl ch.size ji hl1 ch (by omega) (by decide) fun _ _ _ _ zu ya dw=>?_
 replace ji:=ya
 have fy:=dw.ext ch (fun p hp=>(dl.block p hp).1)
 refine mv 1 G (aA (sr (mv 1 G (pf g1 10 G (aP G G (bA (fun _=>by kernel_rfl) ((ei.ext fq).updOT dl (by decide) dw) G) ?_)))))
 have eh:=zu
 refine AV (w0:=w) G G G eh fy.size ji hl2 fy (by omega) (by decide) fun lm kx _ Dv Cm yl fa=>?_
 replace ji:=yl
 have dn:=fa.ext fy (fun p hp=>(eh.block p hp).1)
 refine mv 1 G (aA (aH ?_))
 have hZ:=(ji.ext dn).zw Cm
 obtain⟨ζ,hζ,hζ0,hζ1,hζ2,hζ3,hζL,hζM⟩:=EE sa sb sd se σ τ n1
 obtain⟨Ω,hΩ,hΩ0,hΩ1,hΩ2,hΩ3,hΩL,hΩM⟩:=EE xs ys ds es ω υ n1
 rw [hζ,hΩ] at hZ
 clear ji
 have nu:∀j,j<(4+n1+n2)→(Ω j).length≤1048576:=O3 (P:=fun l:List Nat=>l.length≤1048576) hΩ0 hΩ1 hΩ2 hΩ3 hΩL hΩM la lb ld le (E9 hs1) (E9 hs2)
 refine aJ (mv 1 G (cl (vs:= [AT lm (4+n1+n2) kx]) dn (P6 (hZ.ext aD) (by omega) nu) G (by kernel_rfl) fun _ Ex Dx aa bh=>?_))
 obtain⟨AX,cX,AW,cW,γ,us,ws,rfl,hX,hC,hW,hD,hF⟩:=Dx
 obtain⟨lq,rj⟩:∃q,Dv.heap.size=q:=⟨_,rfl⟩
 rw [rj] at hX hW hF
 obtain⟨hi,nx⟩:∃q,Ex.heap.size=q:=⟨_,rfl⟩
 have dm:w.heap.size≤lq:=by rw [←rj];exact dn.size
 have ef:lq≤hi:=by rw [←rj,←nx];exact aa.size
 have Cg:∀j,j<(4+n1+n2)+80→lq≤γ j∧γ j<hi:=fun j hj=>⟨(hF.1 j hj).1,by rw [←nx];exact hF.lt hj⟩
 have ge:∀j,j<(4+n1+n2)+80→(dD (4+n1+n2) Ω j).length≤1048576:=fun j _=>rS nu j
 obtain⟨e,he⟩:∃e,eZ (fI (4+n1+n2) ζ) γ (dD (4+n1+n2) Ω)=e:=⟨_,rfl⟩
 have tk:Ce us ((4+n1+n2)+80) e:=by rw [←he];exact hC
 refine mv 1 G (pu (v:= AT AX ((4+n1+n2)+80) cX) G (pu (v:= AT AW ((4+n1+n2)+80) cW) G (mv 2 G (aA (sr (lo j7 ((((ei.ext fq).updOT dl (by decide) dw).updOT eh (by decide) fa).ext aa) [v4 k,.bool sa,AT Aa xs.length ca,.bool sb,AT Ab ys.length cb,.bool sd,AT Ad ds.length cd,.bool se,AT Ae es.length ce,AT AL n1 c1,AT AM n2 c2] G G G (mv 1 G (cl (vs:= [.agg #[v4 k,.bool sa,AT Aa xs.length ca,.bool sb,AT Ab ys.length cb,.bool sd,AT Ad ds.length cd,.bool se,AT Ae es.length ce,AT AL n1 c1,AT AM n2 c2],AT AX ((4+n1+n2)+80) cX]) bh (EY hX tk (by omega) ej fj) G (by kernel_rfl) fun _ Dz Dw f ee=>?_))))))))
 obtain rfl:=Dw
 refine dW G (z:= .agg #[I0,F0,S0,F0,S0,F0,S0,F0,S0,S0,S0]) (vs:= [I0,F0,S0,F0,S0,F0,S0,F0,S0,S0,S0]) (fun _=>by kernel_rfl) G fun jf _ nb=>?_
 have gw_g34:Dz.heap.size≤jf:=by rw [←nb.at_];exact aS _
 have uw:=nb.bk
 have vd:w.heap.size≤jf:=by rw [←nb.at_];exact ee.size
 have Ge:g1<jf:=by rw [←nb.at_];exact ((((ei.ext fq).updOT dl (by decide) dw).updOT eh (by decide) fa).ext (aa.t f)).lt
 have D:=nb.ext
 clear nb
 have jh:=ee.trans D
 refine so j7 uw [v4 k,.bool (e 0).s,.slice (e 0).A (e 0).n (e 0).c,.bool (e 1).s,.slice (e 1).A (e 1).n (e 1).c,.bool (e 2).s,.slice (e 2).A (e 2).n (e 2).c,.bool (e 3).s,.slice (e 3).A (e 3).n (e 3).c,AT (dI AX cX 4) n1 (cX-4),AT (dI AX cX (4+n1)) n2 (cX-(4+n1))] jh vd G G G G fun Er fw E my=>(aA (sr (lo j7 (((((ei.ext fq).updOT dl (by decide) dw).updOT eh (by decide) fa).ext (aa.t (f.t D))).vN E) [v4 k,.bool sa,AT Aa xs.length ca,.bool sb,AT Ab ys.length cb,.bool sd,AT Ad ds.length cd,.bool se,AT Ae es.length ce,AT AL n1 c1,AT AM n2 c2] G G G ?_)))
 obtain⟨bw,kn⟩:∃q,Er.heap.size=q:=⟨_,rfl⟩
 have zt:hi≤bw:=by rw [←nx,←kn];exact (E.ext (f.t D) (a6 f.size gw_g34)).size
 refine cl (vs:= [.agg #[v4 k,.bool sa,AT Aa xs.length ca,.bool sb,AT Ab ys.length cb,.bool sd,AT Ad ds.length cd,.bool se,AT Ae es.length ce,AT AL n1 c1,AT AM n2 c2]]) my (yE (b:=bw) (Nat.le_of_eq kn.symm) (Dg.ext my) oh) G (by kernel_rfl) fun _ Fj Eq o yv=>?_
 obtain⟨W,rfl,ju⟩:=AnsR6.cells Eq
 refine dW G (z:= .agg #[F0,S0,F0,S0,F0,S0,S0,I0]) (vs:= [F0,S0,F0,S0,F0,S0,S0,I0]) (fun _=>by kernel_rfl) G fun fk _ nb=>?_
 have gw_g49:Fj.heap.size≤fk:=by rw [←nb.at_];exact aS _
 have ye:=nb.bk
 have va:w.heap.size≤fk:=by rw [←nb.at_];exact yv.size
 have Gc:jf<fk:=by rw [←nb.at_];exact (fw.ext o).lt
 have F:=nb.ext
 clear nb
 have wz:=yv.trans F
 refine so bU ye [.bool W.s,AT W.A W.n W.c,.bool W.s',AT W.A' W.n' W.c',.bool W.s2,AT W.A2 W.n2 W.c2,AT W.B W.m W.d,v4 W.E] wz va G G G G fun En ew H bj=>(aA (aH ?_))
 refine cU bR 14 [] [Is (no g1 0),Is (v4 k),ZR w.heap.size (((10:Nat):Int)),ZR w.heap.size (((6:Nat):Int)),ZR w.heap.size (((7:Nat):Int)),ZR w.heap.size (((9:Nat):Int)),ZR w.heap.size (((4:Nat):Int)),ZR w.heap.size (((9:Nat):Int)),LO6 w.heap.size ((4:Nat):Int) ((9:Nat):Int),ZR w.heap.size (((5:Nat):Int)),ZR w.heap.size (((7:Nat):Int)),LO6 w.heap.size ((5:Nat):Int) ((7:Nat):Int),OpO w.heap.size k ((10:Nat):Int) ((6:Nat):Int) ((7:Nat):Int) ((9:Nat):Int) ((4:Nat):Int) ((9:Nat):Int) ((5:Nat):Int) ((7:Nat):Int),PR En.heap.size 30 [I0,F0,S0,F0,S0,F0,S0,F0,S0,S0,S0]] [[],[0],[],[],[],[],[],[],[6,7],[],[],[9,10],[1,2,3,4,5,8,11],[]] [[],[0],[],[2],[2,3],[2,3,4],[2,3,4,5],[2,3,4,5,6],[2,3,4,5,6,7],[2,3,4,5,6,7],[2,3,4,5,6,7,9],[2,3,4,5,6,7,9,10],[0,1,2,3,4,5,6,7,8,9,10,11],[],[0,1,2,3,4,5,6,7,8,9,10,11,12,13]] rfl
  (aF G G (aC G G ?_) (aF G G (aC G G ?_) (aF G G (aC G G ?_) (aF G G (aC G G ?_) (aF G G (aC G G ?_) (aF G G (aC G G ?_) (aF G G (aC G G ?_) (aF G G (aC G G ?_) (aF G G (aC G G ?_) (aF G G (aC G G ?_) (aF G G (aC G G ?_) (aF G G (aC G G ?_) (aF G G (aC G G ?_) (aF G G (aC G G ?_) cE)))))))))))))) ?_
 ·exact fun _ _=>aB (pf g1 0 G (aE G aD G))
 ·exact fun _ Eg=>dk G G (aB (aP G G (bA (fun _=>by kernel_rfl) ((((((((ei.ext fq).updOT dl (by decide) dw).updOT eh (by decide) fa).ext (aa.t (f.t D))).vN E).ext (o.t F)).vN H).ext Eg) G) (aE G aD G)))
 ·intro _ Ev
  have ar:=bj.trans Ev
  refine aB (cl (vs:= [AI 10]) ar ((kQ ar.size (by decide:10≤18446744073709551615)).mono (Gv.imp (ZO.zr (by decide:10≤18446744073709551615) (by decide:10≠0)))) G (by kernel_rfl) fun _ _ Fh Fg bo=>?_)
  obtain⟨_,_,_,_,rfl,Dq⟩:=Fh
  exact aE G Fg ⟨_,_,_,_,rfl,Dq⟩
 ·intro _ Ea
  have ar:=bj.trans Ea
  refine aB (cl (vs:= [AI 6]) ar ((kQ ar.size (by decide:6≤18446744073709551615)).mono (Gv.imp (ZO.zr (by decide:6≤18446744073709551615) (by decide:6≠0)))) G (by kernel_rfl) fun _ _ Fe Ek bo=>?_)
  obtain⟨_,_,_,_,rfl,Ez⟩:=Fe
  exact aE G Ek ⟨_,_,_,_,rfl,Ez⟩
 ·intro _ Ew
  have ar:=bj.trans Ew
  refine aB (cl (vs:= [AI 7]) ar ((kQ ar.size (by decide:7≤18446744073709551615)).mono (Gv.imp (ZO.zr (by decide:7≤18446744073709551615) (by decide:7≠0)))) G (by kernel_rfl) fun _ _ Fc Fm bo=>?_)
  obtain⟨_,_,_,_,rfl,Fi⟩:=Fc
  exact aE G Fm ⟨_,_,_,_,rfl,Fi⟩
 ·intro _ Fd
  have ar:=bj.trans Fd
  refine aB (cl (vs:= [AI 9]) ar ((kQ ar.size (by decide:9≤18446744073709551615)).mono (Gv.imp (ZO.zr (by decide:9≤18446744073709551615) (by decide:9≠0)))) G (by kernel_rfl) fun _ _ Dc Aw bo=>?_)
  obtain⟨_,_,_,_,rfl,ww⟩:=Dc
  exact aE G Aw ⟨_,_,_,_,rfl,ww⟩
 ·intro _ ue
  have ar:=bj.trans ue
  refine aB (cl (vs:= [AI 4]) ar ((kQ ar.size (by decide:4≤18446744073709551615)).mono (Gv.imp (ZO.zr (by decide:4≤18446744073709551615) (by decide:4≠0)))) G (by kernel_rfl) fun _ _ ur xk bo=>?_)
  obtain⟨_,_,_,_,rfl,xa⟩:=ur
  exact aE G xk ⟨_,_,_,_,rfl,xa⟩
 ·intro _ vl
  have ar:=bj.trans vl
  refine aB (cl (vs:= [AI 9]) ar ((kQ ar.size (by decide:9≤18446744073709551615)).mono (Gv.imp (ZO.zr (by decide:9≤18446744073709551615) (by decide:9≠0)))) G (by kernel_rfl) fun _ _ yk Bj bo=>?_)
  obtain⟨_,_,_,_,rfl,As⟩:=yk
  exact aE G Bj ⟨_,_,_,_,rfl,As⟩
 ·intro wg oq
  have ar:=bj.trans oq
  refine aO G G fun _ _ Ax _ zq=>?_
  obtain⟨Ay,uk,ve,uq,rfl,jx⟩:=Ax
  have jx:=jx.ext zq
  refine aO G G fun _ _ xo _ xx=>?_
  obtain⟨Cp,up,Ac,xz,rfl,jp⟩:=xo
  have jp:=jp.ext xx
  refine aB (fA G G (k:=2) (e:=24) [.bool Ay,AT uk ve uq,.bool Cp,AT up Ac xz] (fun _=>by kernel_rfl) fun jk _ nb=>?_)
  have gw_g130:wg.heap.size≤jk:=by rw [←nb.at_];exact aS _
  have su:=nb.bk
  have Es:w.heap.size≤jk:=by rw [←nb.at_];exact ar.size
  have Fz:fk<jk:=by rw [←nb.at_];exact (ew.ext oq).lt
  have jc:=nb.ext
  clear nb
  have bo:=ar.trans jc
  exact aE G jc ⟨_,_,_,_,_,_,_,_,_,rfl,su,(jx.ext jc),(jp.ext jc)⟩
 ·intro _ Bf
  have ar:=bj.trans Bf
  refine aB (cl (vs:= [AI 5]) ar ((kQ ar.size (by decide:5≤18446744073709551615)).mono (Gv.imp (ZO.zr (by decide:5≤18446744073709551615) (by decide:5≠0)))) G (by kernel_rfl) fun _ _ Cb Am bo=>?_)
  obtain⟨_,_,_,_,rfl,xu⟩:=Cb
  exact aE G Am ⟨_,_,_,_,rfl,xu⟩
 ·intro _ yp
  have ar:=bj.trans yp
  refine aB (cl (vs:= [AI 7]) ar ((kQ ar.size (by decide:7≤18446744073709551615)).mono (Gv.imp (ZO.zr (by decide:7≤18446744073709551615) (by decide:7≠0)))) G (by kernel_rfl) fun _ _ ul Bv bo=>?_)
  obtain⟨_,_,_,_,rfl,vg⟩:=ul
  exact aE G Bv ⟨_,_,_,_,rfl,vg⟩
 ·intro xt ow
  have ar:=bj.trans ow
  refine aO G G fun _ _ An _ ut=>?_
  obtain⟨vk,za,Bn,Bm,rfl,jv⟩:=An
  have jv:=jv.ext ut
  refine aO G G fun _ _ ug _ Bl=>?_
  obtain⟨Di,Df,Ck,vn,rfl,kq⟩:=ug
  have kq:=kq.ext Bl
  refine aB (fA G G (k:=2) (e:=24) [.bool vk,AT za Bn Bm,.bool Di,AT Df Ck vn] (fun _=>by kernel_rfl) fun ku _ nb=>?_)
  have gw_g162:xt.heap.size≤ku:=by rw [←nb.at_];exact aS _
  have tb:=nb.bk
  have Fk:w.heap.size≤ku:=by rw [←nb.at_];exact ar.size
  have Fn:fk<ku:=by rw [←nb.at_];exact (ew.ext ow).lt
  have iz:=nb.ext
  clear nb
  have bo:=ar.trans iz
  exact aE G iz ⟨_,_,_,_,_,_,_,_,_,rfl,tb,(jv.ext iz),(kq.ext iz)⟩
 ·intro _ _
  refine dk G G (aO G G fun _ _ Cu _ Ak=>?_)
  obtain⟨vz,Co,yz,Ag,rfl,jw⟩:=Cu
  have jw:=jw.ext Ak
  refine aO G G fun _ _ Cf _ Ap=>?_
  obtain⟨Bc,Al,Bd,we,rfl,jz⟩:=Cf
  have jz:=jz.ext Ap
  refine aO G G fun _ _ xy _ uu=>?_
  obtain⟨yw,yd,uy,yc,rfl,me⟩:=xy
  have me:=me.ext uu
  refine aO G G fun _ _ wh _ zx=>?_
  obtain⟨Ba,ub,Bb,yo,rfl,kj⟩:=wh
  have kj:=kj.ext zx
  refine aO G G fun _ _ pz _ Cr=>?_
  have gy:=pz
  obtain⟨yb,_,_,_,_,_,_,_,_,rfl,_⟩:=pz
  have gy:=gy.ext Cr
  refine aO G G fun _ _ qd _ Cv=>?_
  have ig:=qd
  obtain⟨vu,_,_,_,_,_,_,_,_,rfl,_⟩:=qd
  have ig:=ig.ext Cv
  refine aB (pu (v:= .agg #[v4 k,.bool vz,AT Co yz Ag,.bool Bc,AT Al Bd we,.bool yw,AT yd uy yc,.bool Ba,AT ub Bb yo,AT (some ⟨yb,0,none⟩) 2 2,AT (some ⟨vu,0,none⟩) 2 2]) G ?_)
  exact aE G aD ⟨_,_,_,_,_,_,_,_,_,_,_,_,_,_,_,_,_,_,rfl,jw,jz,me,kj,(gy),(ig)⟩
 ·intro _ xr
  refine aB (dW G (z:= .agg #[I0,F0,S0,F0,S0,F0,S0,F0,S0,S0,S0]) (vs:= [I0,F0,S0,F0,S0,F0,S0,F0,S0,S0,S0]) (fun _=>by kernel_rfl) G fun _ _ nb=>?_)
  exact aE G nb.ext ⟨_,rfl,by rw [←nb.at_];exact xr.size,nb.bk⟩
 ·intro _ V
  have ar:=bj.trans V
  refine dk G G (dk G G (aO G G fun _ _ Ci _ Da=>?_))
  obtain⟨_,_,_,_,rfl,po⟩:=Ci
  have po:=po.ext Da
  refine aO G G fun _ _ ui _ yq=>?_
  obtain⟨_,_,_,_,rfl,pe⟩:=ui
  have pe:=pe.ext yq
  refine aO G G fun _ _ yf _ xh=>?_
  obtain⟨_,_,_,_,rfl,qi⟩:=yf
  have qi:=qi.ext xh
  refine aO G G fun _ _ Bu _ vr=>?_
  obtain⟨_,_,_,_,rfl,px⟩:=Bu
  have px:=px.ext vr
  refine aO G G fun _ _ xw _ Cc=>?_
  obtain⟨_,_,_,_,rfl,pw⟩:=xw
  have pw:=pw.ext Cc
  refine aO G G fun _ _ ze _ Be=>?_
  obtain⟨_,_,_,_,rfl,oo⟩:=ze
  have oo:=oo.ext Be
  refine aO G G fun _ _ pq _ Cd=>?_
  have kk:=pq
  obtain⟨_,_,_,_,_,_,_,_,_,rfl,_⟩:=pq
  have kk:=kk.ext Cd
  refine aO G G fun _ _ Bh _ tu=>?_
  obtain⟨_,_,_,_,rfl,ov⟩:=Bh
  have ov:=ov.ext tu
  refine aO G G fun _ _ xd _ Au=>?_
  obtain⟨_,_,_,_,rfl,qj⟩:=xd
  have qj:=qj.ext Au
  refine aO G G fun _ _ pm _ xi=>?_
  have jq:=pm
  obtain⟨_,_,_,_,_,_,_,_,_,rfl,_⟩:=pm
  have jq:=jq.ext xi
  refine aO G G fun _ _ zd _ xe=>?_
  have cg:=zd
  obtain⟨de,ct,dh,cp,cy,dg,cv,dd,cx,cm,ck,co,df,da,ci,cu,cz,cn,rfl⟩:=cg.cells
  have cg:=cg.ext xe
  refine aO G G fun _ _ Cj _ Dd=>?_
  obtain⟨jm,rfl,gw_g298,dz⟩:=Cj
  have dz:=dz.ext Dd
  have Fw:fk<jm:=d4 ew.lt gw_g298
  have tg:w.heap.size≤jm:=a6 bj.size gw_g298
  refine aB (so j7 dz [v4 k,.bool de,AT ct dh cp,.bool cy,AT dg cv dd,.bool cx,AT cm ck co,.bool df,AT da ci cu,AT (some ⟨cz,0,none⟩) 2 2,AT (some ⟨cn,0,none⟩) 2 2] ar tg G G G G fun Db ia U bo=>(aR (cF (aK (aH ?_)))))
  have kf:=(KN (k:=k) (n2:=n2) hζ0 hζ1 hζ2 hζ3 hζL hζM hΩ0 hΩ1 hΩ2 hΩ3 hΩL hΩM).trans oh
  have rq:(fJ n1 fun j=>dD (4+n1+n2) Ω (4+j)).sum≤1048576:=tI (fun _=>rfl) hΩL hs1
  have tj:(fJ n2 fun j=>dD (4+n1+n2) Ω (4+n1+j)).sum≤1048576:=tI (fun _=>rfl) (fun j _=>hΩM j) hs2
  obtain⟨S3,mq⟩:∃S,d8 k ((10:Nat):Int) ((6:Nat):Int) ((7:Nat):Int) ((9:Nat):Int) [((4:Nat):Int),((9:Nat):Int)] [((5:Nat):Int),((7:Nat):Int)] 2 2=S:=⟨_,rfl⟩
  have Fb:S3.n≤1048576:=by rw [←mq];exact wX (by decide)
  have wk:S3.n≤524288:=by rw [←mq];exact wW (by decide)
  refine aJ (lo j7 ((((fw.ext (o.t F)).vN H).ext V).vN U) [v4 k,.bool (e 0).s,.slice (e 0).A (e 0).n (e 0).c,.bool (e 1).s,.slice (e 1).A (e 1).n (e 1).c,.bool (e 2).s,.slice (e 2).A (e 2).n (e 2).c,.bool (e 3).s,.slice (e 3).A (e 3).n (e 3).c,AT (dI AX cX 4) n1 (cX-4),AT (dI AX cX (4+n1)) n2 (cX-(4+n1))] G G G (cl (vs:= [.agg #[v4 k,.bool (e 0).s,.slice (e 0).A (e 0).n (e 0).c,.bool (e 1).s,.slice (e 1).A (e 1).n (e 1).c,.bool (e 2).s,.slice (e 2).A (e 2).n (e 2).c,.bool (e 3).s,.slice (e 3).A (e 3).n (e 3).c,AT (dI AX cX 4) n1 (cX-4),AT (dI AX cX (4+n1)) n2 (cX-(4+n1))]]) bo (sF (aS _) (tY he (hX.ext (U.ext ((H.ext (((E.ext (f.t D) (a6 f.size gw_g34)).trans o).trans F) (a6 ((E.ext (f.t D) (a6 f.size gw_g34)).trans o).size gw_g49)).trans V) (a6 (H.ext (((E.ext (f.t D) (a6 f.size gw_g34)).trans o).trans F) (a6 ((E.ext (f.t D) (a6 f.size gw_g34)).trans o).size gw_g49)).size gw_g298))) hC (hF.ext (U.ext ((H.ext (((E.ext (f.t D) (a6 f.size gw_g34)).trans o).trans F) (a6 ((E.ext (f.t D) (a6 f.size gw_g34)).trans o).size gw_g49)).trans V) (a6 (H.ext (((E.ext (f.t D) (a6 f.size gw_g34)).trans o).trans F) (a6 ((E.ext (f.t D) (a6 f.size gw_g34)).trans o).size gw_g49)).size gw_g298))) (fun _=>rfl) G ge rq tj ej fj) kf) G (by kernel_rfl) fun _ ou xv I qc=>?_))
  obtain⟨rx,rfl,fe⟩:=AnsA6.i xv
  obtain⟨bbx,rk⟩:∃q,Db.heap.size=q:=⟨_,rfl⟩
  obtain⟨eex,qz⟩:∃q,ou.heap.size=q:=⟨_,rfl⟩
  rw [rk,qz] at fe
  have ip:bbx≤eex:=by rw [←rk,←qz];exact I.size
  have ua:hi≤bbx:=by rw [←nx,←rk];exact (U.ext ((H.ext (((E.ext (f.t D) (a6 f.size gw_g34)).trans o).trans F) (a6 ((E.ext (f.t D) (a6 f.size gw_g34)).trans o).size gw_g49)).trans V) (a6 (H.ext (((E.ext (f.t D) (a6 f.size gw_g34)).trans o).trans F) (a6 ((E.ext (f.t D) (a6 f.size gw_g34)).trans o).size gw_g49)).size gw_g298)).size
  refine dW G (z:= .agg #[F0,S0,F0,S0,F0,S0,S0,I0]) (vs:= [F0,S0,F0,S0,F0,S0,S0,I0]) (fun _=>by kernel_rfl) G fun ey _ nb=>?_
  have gw_g310:ou.heap.size≤ey:=by rw [←nb.at_];exact aS _
  have rm:=nb.bk
  have sm:w.heap.size≤ey:=by rw [←nb.at_];exact qc.size
  have Fu:jm<ey:=by rw [←nb.at_];exact (ia.ext I).lt
  have X:=nb.ext
  clear nb
  have vc:=qc.trans X
  refine so bU rm [.bool rx.s,AT rx.A rx.n rx.c,.bool rx.s',AT rx.A' rx.n' rx.c',.bool rx.s2,AT rx.A2 rx.n2 rx.c2,AT rx.B rx.m rx.d,v4 rx.E] vc sm G G G G fun xb jr Y zv=>(aA (sr (lo j7 ((((((fw.ext (o.t F)).vN H).ext V).vN U).ext (I.t X)).vN Y) [v4 k,.bool (e 0).s,.slice (e 0).A (e 0).n (e 0).c,.bool (e 1).s,.slice (e 1).A (e 1).n (e 1).c,.bool (e 2).s,.slice (e 2).A (e 2).n (e 2).c,.bool (e 3).s,.slice (e 3).A (e 3).n (e 3).c,AT (dI AX cX 4) n1 (cX-4),AT (dI AX cX (4+n1)) n2 (cX-(4+n1))] G G G (cl (vs:= [.agg #[v4 k,.bool (e 0).s,.slice (e 0).A (e 0).n (e 0).c,.bool (e 1).s,.slice (e 1).A (e 1).n (e 1).c,.bool (e 2).s,.slice (e 2).A (e 2).n (e 2).c,.bool (e 3).s,.slice (e 3).A (e 3).n (e 3).c,AT (dI AX cX 4) n1 (cX-4),AT (dI AX cX (4+n1)) n2 (cX-(4+n1))]]) zv (sF (aS _) (tY he (hX.ext (Y.ext (((U.ext ((H.ext (((E.ext (f.t D) (a6 f.size gw_g34)).trans o).trans F) (a6 ((E.ext (f.t D) (a6 f.size gw_g34)).trans o).size gw_g49)).trans V) (a6 (H.ext (((E.ext (f.t D) (a6 f.size gw_g34)).trans o).trans F) (a6 ((E.ext (f.t D) (a6 f.size gw_g34)).trans o).size gw_g49)).size gw_g298)).trans I).trans X) (a6 ((U.ext ((H.ext (((E.ext (f.t D) (a6 f.size gw_g34)).trans o).trans F) (a6 ((E.ext (f.t D) (a6 f.size gw_g34)).trans o).size gw_g49)).trans V) (a6 (H.ext (((E.ext (f.t D) (a6 f.size gw_g34)).trans o).trans F) (a6 ((E.ext (f.t D) (a6 f.size gw_g34)).trans o).size gw_g49)).size gw_g298)).trans I).size gw_g310))) hC (hF.ext (Y.ext (((U.ext ((H.ext (((E.ext (f.t D) (a6 f.size gw_g34)).trans o).trans F) (a6 ((E.ext (f.t D) (a6 f.size gw_g34)).trans o).size gw_g49)).trans V) (a6 (H.ext (((E.ext (f.t D) (a6 f.size gw_g34)).trans o).trans F) (a6 ((E.ext (f.t D) (a6 f.size gw_g34)).trans o).size gw_g49)).size gw_g298)).trans I).trans X) (a6 ((U.ext ((H.ext (((E.ext (f.t D) (a6 f.size gw_g34)).trans o).trans F) (a6 ((E.ext (f.t D) (a6 f.size gw_g34)).trans o).size gw_g49)).trans V) (a6 (H.ext (((E.ext (f.t D) (a6 f.size gw_g34)).trans o).trans F) (a6 ((E.ext (f.t D) (a6 f.size gw_g34)).trans o).size gw_g49)).size gw_g298)).trans I).size gw_g310))) (fun _=>rfl) G ge rq tj ej fj) kf) G (by kernel_rfl) fun _ pl Az Z pk=>?_))))
  obtain⟨ry,rfl,dy⟩:=AnsA6.i Az
  obtain⟨bby,te⟩:∃q,xb.heap.size=q:=⟨_,rfl⟩
  obtain⟨eey,ro⟩:∃q,pl.heap.size=q:=⟨_,rfl⟩
  rw [te,ro] at dy
  have ij:bby≤eey:=by rw [←te,←ro];exact Z.size
  have pd:eex≤bby:=by rw [←qz,←te];exact (Y.ext X (a6 aD.size gw_g310)).size
  refine dW G (z:= .agg #[F0,S0,F0,S0,F0,S0,S0,I0]) (vs:= [F0,S0,F0,S0,F0,S0,S0,I0]) (fun _=>by kernel_rfl) G fun ep _ nb=>?_
  have gw_g324:pl.heap.size≤ep:=by rw [←nb.at_];exact aS _
  have ss:=nb.bk
  have sj:w.heap.size≤ep:=by rw [←nb.at_];exact pk.size
  have Fp:ey<ep:=by rw [←nb.at_];exact (jr.ext Z).lt
  have ab:=nb.ext
  clear nb
  have vh:=pk.trans ab
  refine so bU ss [.bool ry.s,AT ry.A ry.n ry.c,.bool ry.s',AT ry.A' ry.n' ry.c',.bool ry.s2,AT ry.A2 ry.n2 ry.c2,AT ry.B ry.m ry.d,v4 ry.E] vh sj G G G G fun Ao gx ag xj=>(aA (sr (lo j7 ((((ia.ext (I.t X)).vN Y).ext (Z.t ab)).vN ag) [v4 k,.bool de,AT ct dh cp,.bool cy,AT dg cv dd,.bool cx,AT cm ck co,.bool df,AT da ci cu,AT (some ⟨cz,0,none⟩) 2 2,AT (some ⟨cn,0,none⟩) 2 2] G G G (cl (vs:= [.agg #[v4 k,.bool de,AT ct dh cp,.bool cy,AT dg cv dd,.bool cx,AT cm ck co,.bool df,AT da ci cu,AT (some ⟨cz,0,none⟩) 2 2,AT (some ⟨cn,0,none⟩) 2 2]]) xj (sF (aS _) (((cg.updT dz U).ext (ag.ext (((Y.ext (I.t X) (a6 I.size gw_g310)).trans Z).trans ab) (a6 ((Y.ext (I.t X) (a6 I.size gw_g310)).trans Z).size gw_g324))).op6 (by decide+kernel) (by decide+kernel) (by decide+kernel) (by decide+kernel) (by decide+kernel) (by decide+kernel) (by decide+kernel) (by decide+kernel)) mq) G (by kernel_rfl) fun _ py yj ae ot=>?_))))
  obtain⟨rz,rfl,fh⟩:=AnsA6.i yj
  obtain⟨bbz,qx⟩:∃q,Ao.heap.size=q:=⟨_,rfl⟩
  obtain⟨eez,tp⟩:∃q,py.heap.size=q:=⟨_,rfl⟩
  rw [qx,tp] at fh
  have jy:bbz≤eez:=by rw [←qx,←tp];exact ae.size
  have pj:eey≤bbz:=by rw [←ro,←qx];exact (ag.ext ab (a6 aD.size gw_g324)).size
  refine dW G (z:= .agg #[F0,S0,F0,S0,F0,S0,S0,I0]) (vs:= [F0,S0,F0,S0,F0,S0,S0,I0]) (fun _=>by kernel_rfl) G fun fb _ nb=>?_
  have gw_g338:py.heap.size≤fb:=by rw [←nb.at_];exact aS _
  have sk:=nb.bk
  have qy:w.heap.size≤fb:=by rw [←nb.at_];exact ot.size
  have Fv:ep<fb:=by rw [←nb.at_];exact (gx.ext ae).lt
  have ai:=nb.ext
  clear nb
  have Bs:=ot.trans ai
  refine so bU sk [.bool rz.s,AT rz.A rz.n rz.c,.bool rz.s',AT rz.A' rz.n' rz.c',.bool rz.s2,AT rz.A2 rz.n2 rz.c2,AT rz.B rz.m rz.d,v4 rz.E] Bs qy G G G G fun yi ib aj Bt=>(aA (sr (lo j7 ((((((((((fw.ext (o.t F)).vN H).ext V).vN U).ext (I.t X)).vN Y).ext (Z.t ab)).vN ag).ext (ae.t ai)).vN aj) [v4 k,.bool (e 0).s,.slice (e 0).A (e 0).n (e 0).c,.bool (e 1).s,.slice (e 1).A (e 1).n (e 1).c,.bool (e 2).s,.slice (e 2).A (e 2).n (e 2).c,.bool (e 3).s,.slice (e 3).A (e 3).n (e 3).c,AT (dI AX cX 4) n1 (cX-4),AT (dI AX cX (4+n1)) n2 (cX-(4+n1))] G G G (cl (vs:= [.agg #[v4 k,.bool (e 0).s,.slice (e 0).A (e 0).n (e 0).c,.bool (e 1).s,.slice (e 1).A (e 1).n (e 1).c,.bool (e 2).s,.slice (e 2).A (e 2).n (e 2).c,.bool (e 3).s,.slice (e 3).A (e 3).n (e 3).c,AT (dI AX cX 4) n1 (cX-4),AT (dI AX cX (4+n1)) n2 (cX-(4+n1))]]) Bt (sF (aS _) (tY he (hX.ext (aj.ext (((ag.ext (((Y.ext (((U.ext ((H.ext (((E.ext (f.t D) (a6 f.size gw_g34)).trans o).trans F) (a6 ((E.ext (f.t D) (a6 f.size gw_g34)).trans o).size gw_g49)).trans V) (a6 (H.ext (((E.ext (f.t D) (a6 f.size gw_g34)).trans o).trans F) (a6 ((E.ext (f.t D) (a6 f.size gw_g34)).trans o).size gw_g49)).size gw_g298)).trans I).trans X) (a6 ((U.ext ((H.ext (((E.ext (f.t D) (a6 f.size gw_g34)).trans o).trans F) (a6 ((E.ext (f.t D) (a6 f.size gw_g34)).trans o).size gw_g49)).trans V) (a6 (H.ext (((E.ext (f.t D) (a6 f.size gw_g34)).trans o).trans F) (a6 ((E.ext (f.t D) (a6 f.size gw_g34)).trans o).size gw_g49)).size gw_g298)).trans I).size gw_g310)).trans Z).trans ab) (a6 ((Y.ext (((U.ext ((H.ext (((E.ext (f.t D) (a6 f.size gw_g34)).trans o).trans F) (a6 ((E.ext (f.t D) (a6 f.size gw_g34)).trans o).size gw_g49)).trans V) (a6 (H.ext (((E.ext (f.t D) (a6 f.size gw_g34)).trans o).trans F) (a6 ((E.ext (f.t D) (a6 f.size gw_g34)).trans o).size gw_g49)).size gw_g298)).trans I).trans X) (a6 ((U.ext ((H.ext (((E.ext (f.t D) (a6 f.size gw_g34)).trans o).trans F) (a6 ((E.ext (f.t D) (a6 f.size gw_g34)).trans o).size gw_g49)).trans V) (a6 (H.ext (((E.ext (f.t D) (a6 f.size gw_g34)).trans o).trans F) (a6 ((E.ext (f.t D) (a6 f.size gw_g34)).trans o).size gw_g49)).size gw_g298)).trans I).size gw_g310)).trans Z).size gw_g324)).trans ae).trans ai) (a6 ((ag.ext (((Y.ext (((U.ext ((H.ext (((E.ext (f.t D) (a6 f.size gw_g34)).trans o).trans F) (a6 ((E.ext (f.t D) (a6 f.size gw_g34)).trans o).size gw_g49)).trans V) (a6 (H.ext (((E.ext (f.t D) (a6 f.size gw_g34)).trans o).trans F) (a6 ((E.ext (f.t D) (a6 f.size gw_g34)).trans o).size gw_g49)).size gw_g298)).trans I).trans X) (a6 ((U.ext ((H.ext (((E.ext (f.t D) (a6 f.size gw_g34)).trans o).trans F) (a6 ((E.ext (f.t D) (a6 f.size gw_g34)).trans o).size gw_g49)).trans V) (a6 (H.ext (((E.ext (f.t D) (a6 f.size gw_g34)).trans o).trans F) (a6 ((E.ext (f.t D) (a6 f.size gw_g34)).trans o).size gw_g49)).size gw_g298)).trans I).size gw_g310)).trans Z).trans ab) (a6 ((Y.ext (((U.ext ((H.ext (((E.ext (f.t D) (a6 f.size gw_g34)).trans o).trans F) (a6 ((E.ext (f.t D) (a6 f.size gw_g34)).trans o).size gw_g49)).trans V) (a6 (H.ext (((E.ext (f.t D) (a6 f.size gw_g34)).trans o).trans F) (a6 ((E.ext (f.t D) (a6 f.size gw_g34)).trans o).size gw_g49)).size gw_g298)).trans I).trans X) (a6 ((U.ext ((H.ext (((E.ext (f.t D) (a6 f.size gw_g34)).trans o).trans F) (a6 ((E.ext (f.t D) (a6 f.size gw_g34)).trans o).size gw_g49)).trans V) (a6 (H.ext (((E.ext (f.t D) (a6 f.size gw_g34)).trans o).trans F) (a6 ((E.ext (f.t D) (a6 f.size gw_g34)).trans o).size gw_g49)).size gw_g298)).trans I).size gw_g310)).trans Z).size gw_g324)).trans ae).size gw_g338))) hC (hF.ext (aj.ext (((ag.ext (((Y.ext (((U.ext ((H.ext (((E.ext (f.t D) (a6 f.size gw_g34)).trans o).trans F) (a6 ((E.ext (f.t D) (a6 f.size gw_g34)).trans o).size gw_g49)).trans V) (a6 (H.ext (((E.ext (f.t D) (a6 f.size gw_g34)).trans o).trans F) (a6 ((E.ext (f.t D) (a6 f.size gw_g34)).trans o).size gw_g49)).size gw_g298)).trans I).trans X) (a6 ((U.ext ((H.ext (((E.ext (f.t D) (a6 f.size gw_g34)).trans o).trans F) (a6 ((E.ext (f.t D) (a6 f.size gw_g34)).trans o).size gw_g49)).trans V) (a6 (H.ext (((E.ext (f.t D) (a6 f.size gw_g34)).trans o).trans F) (a6 ((E.ext (f.t D) (a6 f.size gw_g34)).trans o).size gw_g49)).size gw_g298)).trans I).size gw_g310)).trans Z).trans ab) (a6 ((Y.ext (((U.ext ((H.ext (((E.ext (f.t D) (a6 f.size gw_g34)).trans o).trans F) (a6 ((E.ext (f.t D) (a6 f.size gw_g34)).trans o).size gw_g49)).trans V) (a6 (H.ext (((E.ext (f.t D) (a6 f.size gw_g34)).trans o).trans F) (a6 ((E.ext (f.t D) (a6 f.size gw_g34)).trans o).size gw_g49)).size gw_g298)).trans I).trans X) (a6 ((U.ext ((H.ext (((E.ext (f.t D) (a6 f.size gw_g34)).trans o).trans F) (a6 ((E.ext (f.t D) (a6 f.size gw_g34)).trans o).size gw_g49)).trans V) (a6 (H.ext (((E.ext (f.t D) (a6 f.size gw_g34)).trans o).trans F) (a6 ((E.ext (f.t D) (a6 f.size gw_g34)).trans o).size gw_g49)).size gw_g298)).trans I).size gw_g310)).trans Z).size gw_g324)).trans ae).trans ai) (a6 ((ag.ext (((Y.ext (((U.ext ((H.ext (((E.ext (f.t D) (a6 f.size gw_g34)).trans o).trans F) (a6 ((E.ext (f.t D) (a6 f.size gw_g34)).trans o).size gw_g49)).trans V) (a6 (H.ext (((E.ext (f.t D) (a6 f.size gw_g34)).trans o).trans F) (a6 ((E.ext (f.t D) (a6 f.size gw_g34)).trans o).size gw_g49)).size gw_g298)).trans I).trans X) (a6 ((U.ext ((H.ext (((E.ext (f.t D) (a6 f.size gw_g34)).trans o).trans F) (a6 ((E.ext (f.t D) (a6 f.size gw_g34)).trans o).size gw_g49)).trans V) (a6 (H.ext (((E.ext (f.t D) (a6 f.size gw_g34)).trans o).trans F) (a6 ((E.ext (f.t D) (a6 f.size gw_g34)).trans o).size gw_g49)).size gw_g298)).trans I).size gw_g310)).trans Z).trans ab) (a6 ((Y.ext (((U.ext ((H.ext (((E.ext (f.t D) (a6 f.size gw_g34)).trans o).trans F) (a6 ((E.ext (f.t D) (a6 f.size gw_g34)).trans o).size gw_g49)).trans V) (a6 (H.ext (((E.ext (f.t D) (a6 f.size gw_g34)).trans o).trans F) (a6 ((E.ext (f.t D) (a6 f.size gw_g34)).trans o).size gw_g49)).size gw_g298)).trans I).trans X) (a6 ((U.ext ((H.ext (((E.ext (f.t D) (a6 f.size gw_g34)).trans o).trans F) (a6 ((E.ext (f.t D) (a6 f.size gw_g34)).trans o).size gw_g49)).trans V) (a6 (H.ext (((E.ext (f.t D) (a6 f.size gw_g34)).trans o).trans F) (a6 ((E.ext (f.t D) (a6 f.size gw_g34)).trans o).size gw_g49)).size gw_g298)).trans I).size gw_g310)).trans Z).size gw_g324)).trans ae).size gw_g338))) (fun _=>rfl) G ge rq tj ej fj) kf) G (by kernel_rfl) fun _ qk wy ak ph=>?_))))
  obtain⟨rv,rfl,eg⟩:=AnsA6.i wy
  obtain⟨bbv,tn⟩:∃q,yi.heap.size=q:=⟨_,rfl⟩
  obtain⟨eev,gk⟩:∃q,qk.heap.size=q:=⟨_,rfl⟩
  rw [tn,gk] at eg
  have jb:bbv≤eev:=by rw [←tn,←gk];exact ak.size
  have qf:eez≤bbv:=by rw [←tp,←tn];exact (aj.ext ai (a6 aD.size gw_g338)).size
  refine dW G (z:= .agg #[F0,S0,F0,S0,F0,S0,S0,I0]) (vs:= [F0,S0,F0,S0,F0,S0,S0,I0]) (fun _=>by kernel_rfl) G fun fc _ nb=>?_
  have gw_g352:qk.heap.size≤fc:=by rw [←nb.at_];exact aS _
  have qp:=nb.bk
  have sw:w.heap.size≤fc:=by rw [←nb.at_];exact ph.size
  have Fx:fb<fc:=by rw [←nb.at_];exact (ib.ext ak).lt
  have ao:=nb.ext
  clear nb
  have ux:=ph.trans ao
  refine so bU qp [.bool rv.s,AT rv.A rv.n rv.c,.bool rv.s',AT rv.A' rv.n' rv.c',.bool rv.s2,AT rv.A2 rv.n2 rv.c2,AT rv.B rv.m rv.d,v4 rv.E] ux sw G G G G fun _ kz aq el=>(aA (aH (aH ?_)))
  refine cU bR 24 [] [Is (AT AX ((4+n1+n2)+80) cX),Is (AT AW ((4+n1+n2)+80) cW),Is (AT lm (4+n1+n2) kx),Is (By),Is (BY),Is (BY),Is (.agg #[.bool ry.s,AT ry.A ry.n ry.c,.bool ry.s',AT ry.A' ry.n' ry.c',.bool ry.s2,AT ry.A2 ry.n2 ry.c2,AT ry.B ry.m ry.d,v4 ry.E]),Is (.agg #[.bool W.s,AT W.A W.n W.c,.bool W.s',AT W.A' W.n' W.c',.bool W.s2,AT W.A2 W.n2 W.c2,AT W.B W.m W.d,v4 W.E]),Is (By),Is (BY),Is (BY),Is (BY),Is (.agg #[.bool rv.s,AT rv.A rv.n rv.c,.bool rv.s',AT rv.A' rv.n' rv.c',.bool rv.s2,AT rv.A2 rv.n2 rv.c2,AT rv.B rv.m rv.d,v4 rv.E]),Is (.agg #[.bool W.s,AT W.A W.n W.c,.bool W.s',AT W.A' W.n' W.c',.bool W.s2,AT W.A2 W.n2 W.c2,AT W.B W.m W.d,v4 W.E]),Is (By),Is (BY),Is (BY),Is (BY),Is (.agg #[.bool rz.s,AT rz.A rz.n rz.c,.bool rz.s',AT rz.A' rz.n' rz.c',.bool rz.s2,AT rz.A2 rz.n2 rz.c2,AT rz.B rz.m rz.d,v4 rz.E]),Is (.agg #[v4 k,.bool de,AT ct dh cp,.bool cy,AT dg cv dd,.bool cx,AT cm ck co,.bool df,AT da ci cu,AT (some ⟨cz,0,none⟩) 2 2,AT (some ⟨cn,0,none⟩) 2 2]),AnsR6 w.heap.size S3,Is (By),Is (BY),Is (BY)] [[],[],[],[0,1,2],[3],[4],[5],[5],[5,6,7],[5,8],[5,9],[10],[11],[11],[11,12,13],[11,14],[11,15],[16],[17],[17],[17,19],[17,18,20],[17,21],[17,22]] [[],[],[],[0,1,2],[0,1,2,3],[0,1,2,3,4],[0,1,2,3,4,5],[0,1,2,3,4,5],[0,1,2,3,4,5,6,7],[0,1,2,3,4,5,6,7,8],[0,1,2,3,4,5,6,7,8,9],[0,1,2,3,4,5,6,7,8,9,10],[0,1,2,3,4,5,6,7,8,9,10,11],[0,1,2,3,4,5,6,7,8,9,10,11],[0,1,2,3,4,5,6,7,8,9,10,11,12,13],[0,1,2,3,4,5,6,7,8,9,10,11,12,13,14],[0,1,2,3,4,5,6,7,8,9,10,11,12,13,14,15],[0,1,2,3,4,5,6,7,8,9,10,11,12,13,14,15,16],[0,1,2,3,4,5,6,7,8,9,10,11,12,13,14,15,16,17],[0,1,2,3,4,5,6,7,8,9,10,11,12,13,14,15,16,17],[0,1,2,3,4,5,6,7,8,9,10,11,12,13,14,15,16,17,19],[0,1,2,3,4,5,6,7,8,9,10,11,12,13,14,15,16,17,18,19,20],[0,1,2,3,4,5,6,7,8,9,10,11,12,13,14,15,16,17,18,19,20,21],[0,1,2,3,4,5,6,7,8,9,10,11,12,13,14,15,16,17,18,19,20,21,22]] rfl
   (aF G G (aC G G ?_) (aF G G (aC G G ?_) (aF G G (aC G G ?_) (aF G G (aC G G ?_) (aF G G (aC G G ?_) (aF G G (aC G G ?_) (aF G G (aC G G ?_) (aF G G (aC G G ?_) (aF G G (aC G G ?_) (aF G G (aC G G ?_) (aF G G (aC G G ?_) (aF G G (aC G G ?_) (aF G G (aC G G ?_) (aF G G (aC G G ?_) (aF G G (aC G G ?_) (aF G G (aC G G ?_) (aF G G (aC G G ?_) (aF G G (aC G G ?_) (aF G G (aC G G ?_) (aF G G (aC G G ?_) (aF G G (aC G G ?_) (aF G G (aC G G ?_) (aF G G (aC G G ?_) (aF G G (aC G G ?_) cE)))))))))))))))))))))))) ?_
  ·exact fun _ _=>aB (mv 1 G (aE G aD G))
  ·exact fun _ _=>aB (mv 1 G (aE G aD G))
  ·exact fun _ _=>aB (mv 1 G (aE G aD G))
  ·intro _ fz
   have bf:=el.trans fz
   refine dk G G (dk G G (dk G G (aB (cl (vs:= [AT AX ((4+n1+n2)+80) cX,AT AW ((4+n1+n2)+80) cW,AT lm (4+n1+n2) kx]) bf (Q5 (hZ.ext ((aq.ext (((aj.ext (((ag.ext (((Y.ext (((U.ext ((H.ext (((E.ext ((aa.t f).trans D) (a6 (aa.t f).size gw_g34)).trans o).trans F) (a6 ((E.ext ((aa.t f).trans D) (a6 (aa.t f).size gw_g34)).trans o).size gw_g49)).trans V) (a6 (H.ext (((E.ext ((aa.t f).trans D) (a6 (aa.t f).size gw_g34)).trans o).trans F) (a6 ((E.ext ((aa.t f).trans D) (a6 (aa.t f).size gw_g34)).trans o).size gw_g49)).size gw_g298)).trans I).trans X) (a6 ((U.ext ((H.ext (((E.ext ((aa.t f).trans D) (a6 (aa.t f).size gw_g34)).trans o).trans F) (a6 ((E.ext ((aa.t f).trans D) (a6 (aa.t f).size gw_g34)).trans o).size gw_g49)).trans V) (a6 (H.ext (((E.ext ((aa.t f).trans D) (a6 (aa.t f).size gw_g34)).trans o).trans F) (a6 ((E.ext ((aa.t f).trans D) (a6 (aa.t f).size gw_g34)).trans o).size gw_g49)).size gw_g298)).trans I).size gw_g310)).trans Z).trans ab) (a6 ((Y.ext (((U.ext ((H.ext (((E.ext ((aa.t f).trans D) (a6 (aa.t f).size gw_g34)).trans o).trans F) (a6 ((E.ext ((aa.t f).trans D) (a6 (aa.t f).size gw_g34)).trans o).size gw_g49)).trans V) (a6 (H.ext (((E.ext ((aa.t f).trans D) (a6 (aa.t f).size gw_g34)).trans o).trans F) (a6 ((E.ext ((aa.t f).trans D) (a6 (aa.t f).size gw_g34)).trans o).size gw_g49)).size gw_g298)).trans I).trans X) (a6 ((U.ext ((H.ext (((E.ext ((aa.t f).trans D) (a6 (aa.t f).size gw_g34)).trans o).trans F) (a6 ((E.ext ((aa.t f).trans D) (a6 (aa.t f).size gw_g34)).trans o).size gw_g49)).trans V) (a6 (H.ext (((E.ext ((aa.t f).trans D) (a6 (aa.t f).size gw_g34)).trans o).trans F) (a6 ((E.ext ((aa.t f).trans D) (a6 (aa.t f).size gw_g34)).trans o).size gw_g49)).size gw_g298)).trans I).size gw_g310)).trans Z).size gw_g324)).trans ae).trans ai) (a6 ((ag.ext (((Y.ext (((U.ext ((H.ext (((E.ext ((aa.t f).trans D) (a6 (aa.t f).size gw_g34)).trans o).trans F) (a6 ((E.ext ((aa.t f).trans D) (a6 (aa.t f).size gw_g34)).trans o).size gw_g49)).trans V) (a6 (H.ext (((E.ext ((aa.t f).trans D) (a6 (aa.t f).size gw_g34)).trans o).trans F) (a6 ((E.ext ((aa.t f).trans D) (a6 (aa.t f).size gw_g34)).trans o).size gw_g49)).size gw_g298)).trans I).trans X) (a6 ((U.ext ((H.ext (((E.ext ((aa.t f).trans D) (a6 (aa.t f).size gw_g34)).trans o).trans F) (a6 ((E.ext ((aa.t f).trans D) (a6 (aa.t f).size gw_g34)).trans o).size gw_g49)).trans V) (a6 (H.ext (((E.ext ((aa.t f).trans D) (a6 (aa.t f).size gw_g34)).trans o).trans F) (a6 ((E.ext ((aa.t f).trans D) (a6 (aa.t f).size gw_g34)).trans o).size gw_g49)).size gw_g298)).trans I).size gw_g310)).trans Z).trans ab) (a6 ((Y.ext (((U.ext ((H.ext (((E.ext ((aa.t f).trans D) (a6 (aa.t f).size gw_g34)).trans o).trans F) (a6 ((E.ext ((aa.t f).trans D) (a6 (aa.t f).size gw_g34)).trans o).size gw_g49)).trans V) (a6 (H.ext (((E.ext ((aa.t f).trans D) (a6 (aa.t f).size gw_g34)).trans o).trans F) (a6 ((E.ext ((aa.t f).trans D) (a6 (aa.t f).size gw_g34)).trans o).size gw_g49)).size gw_g298)).trans I).trans X) (a6 ((U.ext ((H.ext (((E.ext ((aa.t f).trans D) (a6 (aa.t f).size gw_g34)).trans o).trans F) (a6 ((E.ext ((aa.t f).trans D) (a6 (aa.t f).size gw_g34)).trans o).size gw_g49)).trans V) (a6 (H.ext (((E.ext ((aa.t f).trans D) (a6 (aa.t f).size gw_g34)).trans o).trans F) (a6 ((E.ext ((aa.t f).trans D) (a6 (aa.t f).size gw_g34)).trans o).size gw_g49)).size gw_g298)).trans I).size gw_g310)).trans Z).size gw_g324)).trans ae).size gw_g338)).trans ak).trans ao) (a6 ((aj.ext (((ag.ext (((Y.ext (((U.ext ((H.ext (((E.ext ((aa.t f).trans D) (a6 (aa.t f).size gw_g34)).trans o).trans F) (a6 ((E.ext ((aa.t f).trans D) (a6 (aa.t f).size gw_g34)).trans o).size gw_g49)).trans V) (a6 (H.ext (((E.ext ((aa.t f).trans D) (a6 (aa.t f).size gw_g34)).trans o).trans F) (a6 ((E.ext ((aa.t f).trans D) (a6 (aa.t f).size gw_g34)).trans o).size gw_g49)).size gw_g298)).trans I).trans X) (a6 ((U.ext ((H.ext (((E.ext ((aa.t f).trans D) (a6 (aa.t f).size gw_g34)).trans o).trans F) (a6 ((E.ext ((aa.t f).trans D) (a6 (aa.t f).size gw_g34)).trans o).size gw_g49)).trans V) (a6 (H.ext (((E.ext ((aa.t f).trans D) (a6 (aa.t f).size gw_g34)).trans o).trans F) (a6 ((E.ext ((aa.t f).trans D) (a6 (aa.t f).size gw_g34)).trans o).size gw_g49)).size gw_g298)).trans I).size gw_g310)).trans Z).trans ab) (a6 ((Y.ext (((U.ext ((H.ext (((E.ext ((aa.t f).trans D) (a6 (aa.t f).size gw_g34)).trans o).trans F) (a6 ((E.ext ((aa.t f).trans D) (a6 (aa.t f).size gw_g34)).trans o).size gw_g49)).trans V) (a6 (H.ext (((E.ext ((aa.t f).trans D) (a6 (aa.t f).size gw_g34)).trans o).trans F) (a6 ((E.ext ((aa.t f).trans D) (a6 (aa.t f).size gw_g34)).trans o).size gw_g49)).size gw_g298)).trans I).trans X) (a6 ((U.ext ((H.ext (((E.ext ((aa.t f).trans D) (a6 (aa.t f).size gw_g34)).trans o).trans F) (a6 ((E.ext ((aa.t f).trans D) (a6 (aa.t f).size gw_g34)).trans o).size gw_g49)).trans V) (a6 (H.ext (((E.ext ((aa.t f).trans D) (a6 (aa.t f).size gw_g34)).trans o).trans F) (a6 ((E.ext ((aa.t f).trans D) (a6 (aa.t f).size gw_g34)).trans o).size gw_g49)).size gw_g298)).trans I).size gw_g310)).trans Z).size gw_g324)).trans ae).trans ai) (a6 ((ag.ext (((Y.ext (((U.ext ((H.ext (((E.ext ((aa.t f).trans D) (a6 (aa.t f).size gw_g34)).trans o).trans F) (a6 ((E.ext ((aa.t f).trans D) (a6 (aa.t f).size gw_g34)).trans o).size gw_g49)).trans V) (a6 (H.ext (((E.ext ((aa.t f).trans D) (a6 (aa.t f).size gw_g34)).trans o).trans F) (a6 ((E.ext ((aa.t f).trans D) (a6 (aa.t f).size gw_g34)).trans o).size gw_g49)).size gw_g298)).trans I).trans X) (a6 ((U.ext ((H.ext (((E.ext ((aa.t f).trans D) (a6 (aa.t f).size gw_g34)).trans o).trans F) (a6 ((E.ext ((aa.t f).trans D) (a6 (aa.t f).size gw_g34)).trans o).size gw_g49)).trans V) (a6 (H.ext (((E.ext ((aa.t f).trans D) (a6 (aa.t f).size gw_g34)).trans o).trans F) (a6 ((E.ext ((aa.t f).trans D) (a6 (aa.t f).size gw_g34)).trans o).size gw_g49)).size gw_g298)).trans I).size gw_g310)).trans Z).trans ab) (a6 ((Y.ext (((U.ext ((H.ext (((E.ext ((aa.t f).trans D) (a6 (aa.t f).size gw_g34)).trans o).trans F) (a6 ((E.ext ((aa.t f).trans D) (a6 (aa.t f).size gw_g34)).trans o).size gw_g49)).trans V) (a6 (H.ext (((E.ext ((aa.t f).trans D) (a6 (aa.t f).size gw_g34)).trans o).trans F) (a6 ((E.ext ((aa.t f).trans D) (a6 (aa.t f).size gw_g34)).trans o).size gw_g49)).size gw_g298)).trans I).trans X) (a6 ((U.ext ((H.ext (((E.ext ((aa.t f).trans D) (a6 (aa.t f).size gw_g34)).trans o).trans F) (a6 ((E.ext ((aa.t f).trans D) (a6 (aa.t f).size gw_g34)).trans o).size gw_g49)).trans V) (a6 (H.ext (((E.ext ((aa.t f).trans D) (a6 (aa.t f).size gw_g34)).trans o).trans F) (a6 ((E.ext ((aa.t f).trans D) (a6 (aa.t f).size gw_g34)).trans o).size gw_g49)).size gw_g298)).trans I).size gw_g310)).trans Z).size gw_g324)).trans ae).size gw_g338)).trans ak).size gw_g352)).trans fz)) (by omega) nu (hX.ext ((aq.ext (((aj.ext (((ag.ext (((Y.ext (((U.ext ((H.ext (((E.ext (f.t D) (a6 f.size gw_g34)).trans o).trans F) (a6 ((E.ext (f.t D) (a6 f.size gw_g34)).trans o).size gw_g49)).trans V) (a6 (H.ext (((E.ext (f.t D) (a6 f.size gw_g34)).trans o).trans F) (a6 ((E.ext (f.t D) (a6 f.size gw_g34)).trans o).size gw_g49)).size gw_g298)).trans I).trans X) (a6 ((U.ext ((H.ext (((E.ext (f.t D) (a6 f.size gw_g34)).trans o).trans F) (a6 ((E.ext (f.t D) (a6 f.size gw_g34)).trans o).size gw_g49)).trans V) (a6 (H.ext (((E.ext (f.t D) (a6 f.size gw_g34)).trans o).trans F) (a6 ((E.ext (f.t D) (a6 f.size gw_g34)).trans o).size gw_g49)).size gw_g298)).trans I).size gw_g310)).trans Z).trans ab) (a6 ((Y.ext (((U.ext ((H.ext (((E.ext (f.t D) (a6 f.size gw_g34)).trans o).trans F) (a6 ((E.ext (f.t D) (a6 f.size gw_g34)).trans o).size gw_g49)).trans V) (a6 (H.ext (((E.ext (f.t D) (a6 f.size gw_g34)).trans o).trans F) (a6 ((E.ext (f.t D) (a6 f.size gw_g34)).trans o).size gw_g49)).size gw_g298)).trans I).trans X) (a6 ((U.ext ((H.ext (((E.ext (f.t D) (a6 f.size gw_g34)).trans o).trans F) (a6 ((E.ext (f.t D) (a6 f.size gw_g34)).trans o).size gw_g49)).trans V) (a6 (H.ext (((E.ext (f.t D) (a6 f.size gw_g34)).trans o).trans F) (a6 ((E.ext (f.t D) (a6 f.size gw_g34)).trans o).size gw_g49)).size gw_g298)).trans I).size gw_g310)).trans Z).size gw_g324)).trans ae).trans ai) (a6 ((ag.ext (((Y.ext (((U.ext ((H.ext (((E.ext (f.t D) (a6 f.size gw_g34)).trans o).trans F) (a6 ((E.ext (f.t D) (a6 f.size gw_g34)).trans o).size gw_g49)).trans V) (a6 (H.ext (((E.ext (f.t D) (a6 f.size gw_g34)).trans o).trans F) (a6 ((E.ext (f.t D) (a6 f.size gw_g34)).trans o).size gw_g49)).size gw_g298)).trans I).trans X) (a6 ((U.ext ((H.ext (((E.ext (f.t D) (a6 f.size gw_g34)).trans o).trans F) (a6 ((E.ext (f.t D) (a6 f.size gw_g34)).trans o).size gw_g49)).trans V) (a6 (H.ext (((E.ext (f.t D) (a6 f.size gw_g34)).trans o).trans F) (a6 ((E.ext (f.t D) (a6 f.size gw_g34)).trans o).size gw_g49)).size gw_g298)).trans I).size gw_g310)).trans Z).trans ab) (a6 ((Y.ext (((U.ext ((H.ext (((E.ext (f.t D) (a6 f.size gw_g34)).trans o).trans F) (a6 ((E.ext (f.t D) (a6 f.size gw_g34)).trans o).size gw_g49)).trans V) (a6 (H.ext (((E.ext (f.t D) (a6 f.size gw_g34)).trans o).trans F) (a6 ((E.ext (f.t D) (a6 f.size gw_g34)).trans o).size gw_g49)).size gw_g298)).trans I).trans X) (a6 ((U.ext ((H.ext (((E.ext (f.t D) (a6 f.size gw_g34)).trans o).trans F) (a6 ((E.ext (f.t D) (a6 f.size gw_g34)).trans o).size gw_g49)).trans V) (a6 (H.ext (((E.ext (f.t D) (a6 f.size gw_g34)).trans o).trans F) (a6 ((E.ext (f.t D) (a6 f.size gw_g34)).trans o).size gw_g49)).size gw_g298)).trans I).size gw_g310)).trans Z).size gw_g324)).trans ae).size gw_g338)).trans ak).trans ao) (a6 ((aj.ext (((ag.ext (((Y.ext (((U.ext ((H.ext (((E.ext (f.t D) (a6 f.size gw_g34)).trans o).trans F) (a6 ((E.ext (f.t D) (a6 f.size gw_g34)).trans o).size gw_g49)).trans V) (a6 (H.ext (((E.ext (f.t D) (a6 f.size gw_g34)).trans o).trans F) (a6 ((E.ext (f.t D) (a6 f.size gw_g34)).trans o).size gw_g49)).size gw_g298)).trans I).trans X) (a6 ((U.ext ((H.ext (((E.ext (f.t D) (a6 f.size gw_g34)).trans o).trans F) (a6 ((E.ext (f.t D) (a6 f.size gw_g34)).trans o).size gw_g49)).trans V) (a6 (H.ext (((E.ext (f.t D) (a6 f.size gw_g34)).trans o).trans F) (a6 ((E.ext (f.t D) (a6 f.size gw_g34)).trans o).size gw_g49)).size gw_g298)).trans I).size gw_g310)).trans Z).trans ab) (a6 ((Y.ext (((U.ext ((H.ext (((E.ext (f.t D) (a6 f.size gw_g34)).trans o).trans F) (a6 ((E.ext (f.t D) (a6 f.size gw_g34)).trans o).size gw_g49)).trans V) (a6 (H.ext (((E.ext (f.t D) (a6 f.size gw_g34)).trans o).trans F) (a6 ((E.ext (f.t D) (a6 f.size gw_g34)).trans o).size gw_g49)).size gw_g298)).trans I).trans X) (a6 ((U.ext ((H.ext (((E.ext (f.t D) (a6 f.size gw_g34)).trans o).trans F) (a6 ((E.ext (f.t D) (a6 f.size gw_g34)).trans o).size gw_g49)).trans V) (a6 (H.ext (((E.ext (f.t D) (a6 f.size gw_g34)).trans o).trans F) (a6 ((E.ext (f.t D) (a6 f.size gw_g34)).trans o).size gw_g49)).size gw_g298)).trans I).size gw_g310)).trans Z).size gw_g324)).trans ae).trans ai) (a6 ((ag.ext (((Y.ext (((U.ext ((H.ext (((E.ext (f.t D) (a6 f.size gw_g34)).trans o).trans F) (a6 ((E.ext (f.t D) (a6 f.size gw_g34)).trans o).size gw_g49)).trans V) (a6 (H.ext (((E.ext (f.t D) (a6 f.size gw_g34)).trans o).trans F) (a6 ((E.ext (f.t D) (a6 f.size gw_g34)).trans o).size gw_g49)).size gw_g298)).trans I).trans X) (a6 ((U.ext ((H.ext (((E.ext (f.t D) (a6 f.size gw_g34)).trans o).trans F) (a6 ((E.ext (f.t D) (a6 f.size gw_g34)).trans o).size gw_g49)).trans V) (a6 (H.ext (((E.ext (f.t D) (a6 f.size gw_g34)).trans o).trans F) (a6 ((E.ext (f.t D) (a6 f.size gw_g34)).trans o).size gw_g49)).size gw_g298)).trans I).size gw_g310)).trans Z).trans ab) (a6 ((Y.ext (((U.ext ((H.ext (((E.ext (f.t D) (a6 f.size gw_g34)).trans o).trans F) (a6 ((E.ext (f.t D) (a6 f.size gw_g34)).trans o).size gw_g49)).trans V) (a6 (H.ext (((E.ext (f.t D) (a6 f.size gw_g34)).trans o).trans F) (a6 ((E.ext (f.t D) (a6 f.size gw_g34)).trans o).size gw_g49)).size gw_g298)).trans I).trans X) (a6 ((U.ext ((H.ext (((E.ext (f.t D) (a6 f.size gw_g34)).trans o).trans F) (a6 ((E.ext (f.t D) (a6 f.size gw_g34)).trans o).size gw_g49)).trans V) (a6 (H.ext (((E.ext (f.t D) (a6 f.size gw_g34)).trans o).trans F) (a6 ((E.ext (f.t D) (a6 f.size gw_g34)).trans o).size gw_g49)).size gw_g298)).trans I).size gw_g310)).trans Z).size gw_g324)).trans ae).size gw_g338)).trans ak).size gw_g352)).trans fz)) hC (hW.ext ((aq.ext (((aj.ext (((ag.ext (((Y.ext (((U.ext ((H.ext (((E.ext (f.t D) (a6 f.size gw_g34)).trans o).trans F) (a6 ((E.ext (f.t D) (a6 f.size gw_g34)).trans o).size gw_g49)).trans V) (a6 (H.ext (((E.ext (f.t D) (a6 f.size gw_g34)).trans o).trans F) (a6 ((E.ext (f.t D) (a6 f.size gw_g34)).trans o).size gw_g49)).size gw_g298)).trans I).trans X) (a6 ((U.ext ((H.ext (((E.ext (f.t D) (a6 f.size gw_g34)).trans o).trans F) (a6 ((E.ext (f.t D) (a6 f.size gw_g34)).trans o).size gw_g49)).trans V) (a6 (H.ext (((E.ext (f.t D) (a6 f.size gw_g34)).trans o).trans F) (a6 ((E.ext (f.t D) (a6 f.size gw_g34)).trans o).size gw_g49)).size gw_g298)).trans I).size gw_g310)).trans Z).trans ab) (a6 ((Y.ext (((U.ext ((H.ext (((E.ext (f.t D) (a6 f.size gw_g34)).trans o).trans F) (a6 ((E.ext (f.t D) (a6 f.size gw_g34)).trans o).size gw_g49)).trans V) (a6 (H.ext (((E.ext (f.t D) (a6 f.size gw_g34)).trans o).trans F) (a6 ((E.ext (f.t D) (a6 f.size gw_g34)).trans o).size gw_g49)).size gw_g298)).trans I).trans X) (a6 ((U.ext ((H.ext (((E.ext (f.t D) (a6 f.size gw_g34)).trans o).trans F) (a6 ((E.ext (f.t D) (a6 f.size gw_g34)).trans o).size gw_g49)).trans V) (a6 (H.ext (((E.ext (f.t D) (a6 f.size gw_g34)).trans o).trans F) (a6 ((E.ext (f.t D) (a6 f.size gw_g34)).trans o).size gw_g49)).size gw_g298)).trans I).size gw_g310)).trans Z).size gw_g324)).trans ae).trans ai) (a6 ((ag.ext (((Y.ext (((U.ext ((H.ext (((E.ext (f.t D) (a6 f.size gw_g34)).trans o).trans F) (a6 ((E.ext (f.t D) (a6 f.size gw_g34)).trans o).size gw_g49)).trans V) (a6 (H.ext (((E.ext (f.t D) (a6 f.size gw_g34)).trans o).trans F) (a6 ((E.ext (f.t D) (a6 f.size gw_g34)).trans o).size gw_g49)).size gw_g298)).trans I).trans X) (a6 ((U.ext ((H.ext (((E.ext (f.t D) (a6 f.size gw_g34)).trans o).trans F) (a6 ((E.ext (f.t D) (a6 f.size gw_g34)).trans o).size gw_g49)).trans V) (a6 (H.ext (((E.ext (f.t D) (a6 f.size gw_g34)).trans o).trans F) (a6 ((E.ext (f.t D) (a6 f.size gw_g34)).trans o).size gw_g49)).size gw_g298)).trans I).size gw_g310)).trans Z).trans ab) (a6 ((Y.ext (((U.ext ((H.ext (((E.ext (f.t D) (a6 f.size gw_g34)).trans o).trans F) (a6 ((E.ext (f.t D) (a6 f.size gw_g34)).trans o).size gw_g49)).trans V) (a6 (H.ext (((E.ext (f.t D) (a6 f.size gw_g34)).trans o).trans F) (a6 ((E.ext (f.t D) (a6 f.size gw_g34)).trans o).size gw_g49)).size gw_g298)).trans I).trans X) (a6 ((U.ext ((H.ext (((E.ext (f.t D) (a6 f.size gw_g34)).trans o).trans F) (a6 ((E.ext (f.t D) (a6 f.size gw_g34)).trans o).size gw_g49)).trans V) (a6 (H.ext (((E.ext (f.t D) (a6 f.size gw_g34)).trans o).trans F) (a6 ((E.ext (f.t D) (a6 f.size gw_g34)).trans o).size gw_g49)).size gw_g298)).trans I).size gw_g310)).trans Z).size gw_g324)).trans ae).size gw_g338)).trans ak).trans ao) (a6 ((aj.ext (((ag.ext (((Y.ext (((U.ext ((H.ext (((E.ext (f.t D) (a6 f.size gw_g34)).trans o).trans F) (a6 ((E.ext (f.t D) (a6 f.size gw_g34)).trans o).size gw_g49)).trans V) (a6 (H.ext (((E.ext (f.t D) (a6 f.size gw_g34)).trans o).trans F) (a6 ((E.ext (f.t D) (a6 f.size gw_g34)).trans o).size gw_g49)).size gw_g298)).trans I).trans X) (a6 ((U.ext ((H.ext (((E.ext (f.t D) (a6 f.size gw_g34)).trans o).trans F) (a6 ((E.ext (f.t D) (a6 f.size gw_g34)).trans o).size gw_g49)).trans V) (a6 (H.ext (((E.ext (f.t D) (a6 f.size gw_g34)).trans o).trans F) (a6 ((E.ext (f.t D) (a6 f.size gw_g34)).trans o).size gw_g49)).size gw_g298)).trans I).size gw_g310)).trans Z).trans ab) (a6 ((Y.ext (((U.ext ((H.ext (((E.ext (f.t D) (a6 f.size gw_g34)).trans o).trans F) (a6 ((E.ext (f.t D) (a6 f.size gw_g34)).trans o).size gw_g49)).trans V) (a6 (H.ext (((E.ext (f.t D) (a6 f.size gw_g34)).trans o).trans F) (a6 ((E.ext (f.t D) (a6 f.size gw_g34)).trans o).size gw_g49)).size gw_g298)).trans I).trans X) (a6 ((U.ext ((H.ext (((E.ext (f.t D) (a6 f.size gw_g34)).trans o).trans F) (a6 ((E.ext (f.t D) (a6 f.size gw_g34)).trans o).size gw_g49)).trans V) (a6 (H.ext (((E.ext (f.t D) (a6 f.size gw_g34)).trans o).trans F) (a6 ((E.ext (f.t D) (a6 f.size gw_g34)).trans o).size gw_g49)).size gw_g298)).trans I).size gw_g310)).trans Z).size gw_g324)).trans ae).trans ai) (a6 ((ag.ext (((Y.ext (((U.ext ((H.ext (((E.ext (f.t D) (a6 f.size gw_g34)).trans o).trans F) (a6 ((E.ext (f.t D) (a6 f.size gw_g34)).trans o).size gw_g49)).trans V) (a6 (H.ext (((E.ext (f.t D) (a6 f.size gw_g34)).trans o).trans F) (a6 ((E.ext (f.t D) (a6 f.size gw_g34)).trans o).size gw_g49)).size gw_g298)).trans I).trans X) (a6 ((U.ext ((H.ext (((E.ext (f.t D) (a6 f.size gw_g34)).trans o).trans F) (a6 ((E.ext (f.t D) (a6 f.size gw_g34)).trans o).size gw_g49)).trans V) (a6 (H.ext (((E.ext (f.t D) (a6 f.size gw_g34)).trans o).trans F) (a6 ((E.ext (f.t D) (a6 f.size gw_g34)).trans o).size gw_g49)).size gw_g298)).trans I).size gw_g310)).trans Z).trans ab) (a6 ((Y.ext (((U.ext ((H.ext (((E.ext (f.t D) (a6 f.size gw_g34)).trans o).trans F) (a6 ((E.ext (f.t D) (a6 f.size gw_g34)).trans o).size gw_g49)).trans V) (a6 (H.ext (((E.ext (f.t D) (a6 f.size gw_g34)).trans o).trans F) (a6 ((E.ext (f.t D) (a6 f.size gw_g34)).trans o).size gw_g49)).size gw_g298)).trans I).trans X) (a6 ((U.ext ((H.ext (((E.ext (f.t D) (a6 f.size gw_g34)).trans o).trans F) (a6 ((E.ext (f.t D) (a6 f.size gw_g34)).trans o).size gw_g49)).trans V) (a6 (H.ext (((E.ext (f.t D) (a6 f.size gw_g34)).trans o).trans F) (a6 ((E.ext (f.t D) (a6 f.size gw_g34)).trans o).size gw_g49)).size gw_g298)).trans I).size gw_g310)).trans Z).size gw_g324)).trans ae).size gw_g338)).trans ak).size gw_g352)).trans fz)) hD (hF.ext ((aq.ext (((aj.ext (((ag.ext (((Y.ext (((U.ext ((H.ext (((E.ext (f.t D) (a6 f.size gw_g34)).trans o).trans F) (a6 ((E.ext (f.t D) (a6 f.size gw_g34)).trans o).size gw_g49)).trans V) (a6 (H.ext (((E.ext (f.t D) (a6 f.size gw_g34)).trans o).trans F) (a6 ((E.ext (f.t D) (a6 f.size gw_g34)).trans o).size gw_g49)).size gw_g298)).trans I).trans X) (a6 ((U.ext ((H.ext (((E.ext (f.t D) (a6 f.size gw_g34)).trans o).trans F) (a6 ((E.ext (f.t D) (a6 f.size gw_g34)).trans o).size gw_g49)).trans V) (a6 (H.ext (((E.ext (f.t D) (a6 f.size gw_g34)).trans o).trans F) (a6 ((E.ext (f.t D) (a6 f.size gw_g34)).trans o).size gw_g49)).size gw_g298)).trans I).size gw_g310)).trans Z).trans ab) (a6 ((Y.ext (((U.ext ((H.ext (((E.ext (f.t D) (a6 f.size gw_g34)).trans o).trans F) (a6 ((E.ext (f.t D) (a6 f.size gw_g34)).trans o).size gw_g49)).trans V) (a6 (H.ext (((E.ext (f.t D) (a6 f.size gw_g34)).trans o).trans F) (a6 ((E.ext (f.t D) (a6 f.size gw_g34)).trans o).size gw_g49)).size gw_g298)).trans I).trans X) (a6 ((U.ext ((H.ext (((E.ext (f.t D) (a6 f.size gw_g34)).trans o).trans F) (a6 ((E.ext (f.t D) (a6 f.size gw_g34)).trans o).size gw_g49)).trans V) (a6 (H.ext (((E.ext (f.t D) (a6 f.size gw_g34)).trans o).trans F) (a6 ((E.ext (f.t D) (a6 f.size gw_g34)).trans o).size gw_g49)).size gw_g298)).trans I).size gw_g310)).trans Z).size gw_g324)).trans ae).trans ai) (a6 ((ag.ext (((Y.ext (((U.ext ((H.ext (((E.ext (f.t D) (a6 f.size gw_g34)).trans o).trans F) (a6 ((E.ext (f.t D) (a6 f.size gw_g34)).trans o).size gw_g49)).trans V) (a6 (H.ext (((E.ext (f.t D) (a6 f.size gw_g34)).trans o).trans F) (a6 ((E.ext (f.t D) (a6 f.size gw_g34)).trans o).size gw_g49)).size gw_g298)).trans I).trans X) (a6 ((U.ext ((H.ext (((E.ext (f.t D) (a6 f.size gw_g34)).trans o).trans F) (a6 ((E.ext (f.t D) (a6 f.size gw_g34)).trans o).size gw_g49)).trans V) (a6 (H.ext (((E.ext (f.t D) (a6 f.size gw_g34)).trans o).trans F) (a6 ((E.ext (f.t D) (a6 f.size gw_g34)).trans o).size gw_g49)).size gw_g298)).trans I).size gw_g310)).trans Z).trans ab) (a6 ((Y.ext (((U.ext ((H.ext (((E.ext (f.t D) (a6 f.size gw_g34)).trans o).trans F) (a6 ((E.ext (f.t D) (a6 f.size gw_g34)).trans o).size gw_g49)).trans V) (a6 (H.ext (((E.ext (f.t D) (a6 f.size gw_g34)).trans o).trans F) (a6 ((E.ext (f.t D) (a6 f.size gw_g34)).trans o).size gw_g49)).size gw_g298)).trans I).trans X) (a6 ((U.ext ((H.ext (((E.ext (f.t D) (a6 f.size gw_g34)).trans o).trans F) (a6 ((E.ext (f.t D) (a6 f.size gw_g34)).trans o).size gw_g49)).trans V) (a6 (H.ext (((E.ext (f.t D) (a6 f.size gw_g34)).trans o).trans F) (a6 ((E.ext (f.t D) (a6 f.size gw_g34)).trans o).size gw_g49)).size gw_g298)).trans I).size gw_g310)).trans Z).size gw_g324)).trans ae).size gw_g338)).trans ak).trans ao) (a6 ((aj.ext (((ag.ext (((Y.ext (((U.ext ((H.ext (((E.ext (f.t D) (a6 f.size gw_g34)).trans o).trans F) (a6 ((E.ext (f.t D) (a6 f.size gw_g34)).trans o).size gw_g49)).trans V) (a6 (H.ext (((E.ext (f.t D) (a6 f.size gw_g34)).trans o).trans F) (a6 ((E.ext (f.t D) (a6 f.size gw_g34)).trans o).size gw_g49)).size gw_g298)).trans I).trans X) (a6 ((U.ext ((H.ext (((E.ext (f.t D) (a6 f.size gw_g34)).trans o).trans F) (a6 ((E.ext (f.t D) (a6 f.size gw_g34)).trans o).size gw_g49)).trans V) (a6 (H.ext (((E.ext (f.t D) (a6 f.size gw_g34)).trans o).trans F) (a6 ((E.ext (f.t D) (a6 f.size gw_g34)).trans o).size gw_g49)).size gw_g298)).trans I).size gw_g310)).trans Z).trans ab) (a6 ((Y.ext (((U.ext ((H.ext (((E.ext (f.t D) (a6 f.size gw_g34)).trans o).trans F) (a6 ((E.ext (f.t D) (a6 f.size gw_g34)).trans o).size gw_g49)).trans V) (a6 (H.ext (((E.ext (f.t D) (a6 f.size gw_g34)).trans o).trans F) (a6 ((E.ext (f.t D) (a6 f.size gw_g34)).trans o).size gw_g49)).size gw_g298)).trans I).trans X) (a6 ((U.ext ((H.ext (((E.ext (f.t D) (a6 f.size gw_g34)).trans o).trans F) (a6 ((E.ext (f.t D) (a6 f.size gw_g34)).trans o).size gw_g49)).trans V) (a6 (H.ext (((E.ext (f.t D) (a6 f.size gw_g34)).trans o).trans F) (a6 ((E.ext (f.t D) (a6 f.size gw_g34)).trans o).size gw_g49)).size gw_g298)).trans I).size gw_g310)).trans Z).size gw_g324)).trans ae).trans ai) (a6 ((ag.ext (((Y.ext (((U.ext ((H.ext (((E.ext (f.t D) (a6 f.size gw_g34)).trans o).trans F) (a6 ((E.ext (f.t D) (a6 f.size gw_g34)).trans o).size gw_g49)).trans V) (a6 (H.ext (((E.ext (f.t D) (a6 f.size gw_g34)).trans o).trans F) (a6 ((E.ext (f.t D) (a6 f.size gw_g34)).trans o).size gw_g49)).size gw_g298)).trans I).trans X) (a6 ((U.ext ((H.ext (((E.ext (f.t D) (a6 f.size gw_g34)).trans o).trans F) (a6 ((E.ext (f.t D) (a6 f.size gw_g34)).trans o).size gw_g49)).trans V) (a6 (H.ext (((E.ext (f.t D) (a6 f.size gw_g34)).trans o).trans F) (a6 ((E.ext (f.t D) (a6 f.size gw_g34)).trans o).size gw_g49)).size gw_g298)).trans I).size gw_g310)).trans Z).trans ab) (a6 ((Y.ext (((U.ext ((H.ext (((E.ext (f.t D) (a6 f.size gw_g34)).trans o).trans F) (a6 ((E.ext (f.t D) (a6 f.size gw_g34)).trans o).size gw_g49)).trans V) (a6 (H.ext (((E.ext (f.t D) (a6 f.size gw_g34)).trans o).trans F) (a6 ((E.ext (f.t D) (a6 f.size gw_g34)).trans o).size gw_g49)).size gw_g298)).trans I).trans X) (a6 ((U.ext ((H.ext (((E.ext (f.t D) (a6 f.size gw_g34)).trans o).trans F) (a6 ((E.ext (f.t D) (a6 f.size gw_g34)).trans o).size gw_g49)).trans V) (a6 (H.ext (((E.ext (f.t D) (a6 f.size gw_g34)).trans o).trans F) (a6 ((E.ext (f.t D) (a6 f.size gw_g34)).trans o).size gw_g49)).size gw_g298)).trans I).size gw_g310)).trans Z).size gw_g324)).trans ae).size gw_g338)).trans ak).size gw_g352)).trans fz))) G (by kernel_rfl) fun _ _ Dh uv iu=>?_))))
   obtain rfl:=Dh
   exact aE G uv rfl
  ·exact fun _ _=>dk G G (aB (pu (v:= BY) G (aE G aD G)))
  ·exact fun _ _=>dk G G (aB (mv 1 G (aE G aD G)))
  ·exact fun _ um=>dk G G (aB (lo bU (((((gx.ext (ae.t ai)).vN aj).ext (ak.t ao)).vN aq).ext um) [.bool ry.s,AT ry.A ry.n ry.c,.bool ry.s',AT ry.A' ry.n' ry.c',.bool ry.s2,AT ry.A2 ry.n2 ry.c2,AT ry.B ry.m ry.d,v4 ry.E] G G G (aE G aD G)))
  ·exact fun _ tw=>dk G G (aB (lo bU (((((((((((ew.ext V).vN U).ext (I.t X)).vN Y).ext (Z.t ab)).vN ag).ext (ae.t ai)).vN aj).ext (ak.t ao)).vN aq).ext tw) [.bool W.s,AT W.A W.n W.c,.bool W.s',AT W.A' W.n' W.c',.bool W.s2,AT W.A2 W.n2 W.c2,AT W.B W.m W.d,v4 W.E] G G G (aE G aD G)))
  ·intro _ gb
   have bf:=el.trans gb
   refine dk G G (dk G G (dk G G (aB (cl (vs:= [.agg #[.bool ry.s,AT ry.A ry.n ry.c,.bool ry.s',AT ry.A' ry.n' ry.c',.bool ry.s2,AT ry.A2 ry.n2 ry.c2,AT ry.B ry.m ry.d,v4 ry.E],.agg #[.bool W.s,AT W.A W.n W.c,.bool W.s',AT W.A' W.n' W.c',.bool W.s2,AT W.A2 W.n2 W.c2,AT W.B W.m W.d,v4 W.E]]) bf (oQ (a6 ij (dy.ext ((aq.ext (((aj.ext (((ag.ext ab (a6 aD.size gw_g324)).trans ae).trans ai) (a6 ((ag.ext ab (a6 aD.size gw_g324)).trans ae).size gw_g338)).trans ak).trans ao) (a6 ((aj.ext (((ag.ext ab (a6 aD.size gw_g324)).trans ae).trans ai) (a6 ((ag.ext ab (a6 aD.size gw_g324)).trans ae).size gw_g338)).trans ak).size gw_g352)).trans gb)).be) (by rw [←kn];exact ((aq.ext (((aj.ext (((ag.ext (((Y.ext (((U.ext ((H.ext (o.t F) (a6 o.size gw_g49)).trans V) (a6 (H.ext (o.t F) (a6 o.size gw_g49)).size gw_g298)).trans I).trans X) (a6 ((U.ext ((H.ext (o.t F) (a6 o.size gw_g49)).trans V) (a6 (H.ext (o.t F) (a6 o.size gw_g49)).size gw_g298)).trans I).size gw_g310)).trans Z).trans ab) (a6 ((Y.ext (((U.ext ((H.ext (o.t F) (a6 o.size gw_g49)).trans V) (a6 (H.ext (o.t F) (a6 o.size gw_g49)).size gw_g298)).trans I).trans X) (a6 ((U.ext ((H.ext (o.t F) (a6 o.size gw_g49)).trans V) (a6 (H.ext (o.t F) (a6 o.size gw_g49)).size gw_g298)).trans I).size gw_g310)).trans Z).size gw_g324)).trans ae).trans ai) (a6 ((ag.ext (((Y.ext (((U.ext ((H.ext (o.t F) (a6 o.size gw_g49)).trans V) (a6 (H.ext (o.t F) (a6 o.size gw_g49)).size gw_g298)).trans I).trans X) (a6 ((U.ext ((H.ext (o.t F) (a6 o.size gw_g49)).trans V) (a6 (H.ext (o.t F) (a6 o.size gw_g49)).size gw_g298)).trans I).size gw_g310)).trans Z).trans ab) (a6 ((Y.ext (((U.ext ((H.ext (o.t F) (a6 o.size gw_g49)).trans V) (a6 (H.ext (o.t F) (a6 o.size gw_g49)).size gw_g298)).trans I).trans X) (a6 ((U.ext ((H.ext (o.t F) (a6 o.size gw_g49)).trans V) (a6 (H.ext (o.t F) (a6 o.size gw_g49)).size gw_g298)).trans I).size gw_g310)).trans Z).size gw_g324)).trans ae).size gw_g338)).trans ak).trans ao) (a6 ((aj.ext (((ag.ext (((Y.ext (((U.ext ((H.ext (o.t F) (a6 o.size gw_g49)).trans V) (a6 (H.ext (o.t F) (a6 o.size gw_g49)).size gw_g298)).trans I).trans X) (a6 ((U.ext ((H.ext (o.t F) (a6 o.size gw_g49)).trans V) (a6 (H.ext (o.t F) (a6 o.size gw_g49)).size gw_g298)).trans I).size gw_g310)).trans Z).trans ab) (a6 ((Y.ext (((U.ext ((H.ext (o.t F) (a6 o.size gw_g49)).trans V) (a6 (H.ext (o.t F) (a6 o.size gw_g49)).size gw_g298)).trans I).trans X) (a6 ((U.ext ((H.ext (o.t F) (a6 o.size gw_g49)).trans V) (a6 (H.ext (o.t F) (a6 o.size gw_g49)).size gw_g298)).trans I).size gw_g310)).trans Z).size gw_g324)).trans ae).trans ai) (a6 ((ag.ext (((Y.ext (((U.ext ((H.ext (o.t F) (a6 o.size gw_g49)).trans V) (a6 (H.ext (o.t F) (a6 o.size gw_g49)).size gw_g298)).trans I).trans X) (a6 ((U.ext ((H.ext (o.t F) (a6 o.size gw_g49)).trans V) (a6 (H.ext (o.t F) (a6 o.size gw_g49)).size gw_g298)).trans I).size gw_g310)).trans Z).trans ab) (a6 ((Y.ext (((U.ext ((H.ext (o.t F) (a6 o.size gw_g49)).trans V) (a6 (H.ext (o.t F) (a6 o.size gw_g49)).size gw_g298)).trans I).trans X) (a6 ((U.ext ((H.ext (o.t F) (a6 o.size gw_g49)).trans V) (a6 (H.ext (o.t F) (a6 o.size gw_g49)).size gw_g298)).trans I).size gw_g310)).trans Z).size gw_g324)).trans ae).size gw_g338)).trans ak).size gw_g352)).trans gb).size) kw (dy.ext ((aq.ext (((aj.ext (((ag.ext ab (a6 aD.size gw_g324)).trans ae).trans ai) (a6 ((ag.ext ab (a6 aD.size gw_g324)).trans ae).size gw_g338)).trans ak).trans ao) (a6 ((aj.ext (((ag.ext ab (a6 aD.size gw_g324)).trans ae).trans ai) (a6 ((ag.ext ab (a6 aD.size gw_g324)).trans ae).size gw_g338)).trans ak).size gw_g352)).trans gb)).toR (ju.ext ((aq.ext (((aj.ext (((ag.ext (((Y.ext (((U.ext ((H.ext F (a6 aD.size gw_g49)).trans V) (a6 (H.ext F (a6 aD.size gw_g49)).size gw_g298)).trans I).trans X) (a6 ((U.ext ((H.ext F (a6 aD.size gw_g49)).trans V) (a6 (H.ext F (a6 aD.size gw_g49)).size gw_g298)).trans I).size gw_g310)).trans Z).trans ab) (a6 ((Y.ext (((U.ext ((H.ext F (a6 aD.size gw_g49)).trans V) (a6 (H.ext F (a6 aD.size gw_g49)).size gw_g298)).trans I).trans X) (a6 ((U.ext ((H.ext F (a6 aD.size gw_g49)).trans V) (a6 (H.ext F (a6 aD.size gw_g49)).size gw_g298)).trans I).size gw_g310)).trans Z).size gw_g324)).trans ae).trans ai) (a6 ((ag.ext (((Y.ext (((U.ext ((H.ext F (a6 aD.size gw_g49)).trans V) (a6 (H.ext F (a6 aD.size gw_g49)).size gw_g298)).trans I).trans X) (a6 ((U.ext ((H.ext F (a6 aD.size gw_g49)).trans V) (a6 (H.ext F (a6 aD.size gw_g49)).size gw_g298)).trans I).size gw_g310)).trans Z).trans ab) (a6 ((Y.ext (((U.ext ((H.ext F (a6 aD.size gw_g49)).trans V) (a6 (H.ext F (a6 aD.size gw_g49)).size gw_g298)).trans I).trans X) (a6 ((U.ext ((H.ext F (a6 aD.size gw_g49)).trans V) (a6 (H.ext F (a6 aD.size gw_g49)).size gw_g298)).trans I).size gw_g310)).trans Z).size gw_g324)).trans ae).size gw_g338)).trans ak).trans ao) (a6 ((aj.ext (((ag.ext (((Y.ext (((U.ext ((H.ext F (a6 aD.size gw_g49)).trans V) (a6 (H.ext F (a6 aD.size gw_g49)).size gw_g298)).trans I).trans X) (a6 ((U.ext ((H.ext F (a6 aD.size gw_g49)).trans V) (a6 (H.ext F (a6 aD.size gw_g49)).size gw_g298)).trans I).size gw_g310)).trans Z).trans ab) (a6 ((Y.ext (((U.ext ((H.ext F (a6 aD.size gw_g49)).trans V) (a6 (H.ext F (a6 aD.size gw_g49)).size gw_g298)).trans I).trans X) (a6 ((U.ext ((H.ext F (a6 aD.size gw_g49)).trans V) (a6 (H.ext F (a6 aD.size gw_g49)).size gw_g298)).trans I).size gw_g310)).trans Z).size gw_g324)).trans ae).trans ai) (a6 ((ag.ext (((Y.ext (((U.ext ((H.ext F (a6 aD.size gw_g49)).trans V) (a6 (H.ext F (a6 aD.size gw_g49)).size gw_g298)).trans I).trans X) (a6 ((U.ext ((H.ext F (a6 aD.size gw_g49)).trans V) (a6 (H.ext F (a6 aD.size gw_g49)).size gw_g298)).trans I).size gw_g310)).trans Z).trans ab) (a6 ((Y.ext (((U.ext ((H.ext F (a6 aD.size gw_g49)).trans V) (a6 (H.ext F (a6 aD.size gw_g49)).size gw_g298)).trans I).trans X) (a6 ((U.ext ((H.ext F (a6 aD.size gw_g49)).trans V) (a6 (H.ext F (a6 aD.size gw_g49)).size gw_g298)).trans I).size gw_g310)).trans Z).size gw_g324)).trans ae).size gw_g338)).trans ak).size gw_g352)).trans gb))) G (by kernel_rfl) fun _ _ zk vm iu=>?_))))
   obtain rfl:=zk
   exact aE G vm rfl
  ·exact fun _ _=>dk G G (dk G G (aB (pu (v:= BY) G (aE G aD G))))
  ·exact fun _ _=>dk G G (dk G G (aB (pu (v:= BY) G (aE G aD G))))
  ·exact fun _ _=>dk G G (aB (mv 1 G (aE G aD G)))
  ·exact fun _ xp=>dk G G (aB (lo bU (kz.ext xp) [.bool rv.s,AT rv.A rv.n rv.c,.bool rv.s',AT rv.A' rv.n' rv.c',.bool rv.s2,AT rv.A2 rv.n2 rv.c2,AT rv.B rv.m rv.d,v4 rv.E] G G G (aE G aD G)))
  ·exact fun _ At=>dk G G (aB (lo bU (((((((((((ew.ext V).vN U).ext (I.t X)).vN Y).ext (Z.t ab)).vN ag).ext (ae.t ai)).vN aj).ext (ak.t ao)).vN aq).ext At) [.bool W.s,AT W.A W.n W.c,.bool W.s',AT W.A' W.n' W.c',.bool W.s2,AT W.A2 W.n2 W.c2,AT W.B W.m W.d,v4 W.E] G G G (aE G aD G)))
  ·intro _ fm
   have bf:=el.trans fm
   refine dk G G (dk G G (dk G G (aB (cl (vs:= [.agg #[.bool rv.s,AT rv.A rv.n rv.c,.bool rv.s',AT rv.A' rv.n' rv.c',.bool rv.s2,AT rv.A2 rv.n2 rv.c2,AT rv.B rv.m rv.d,v4 rv.E],.agg #[.bool W.s,AT W.A W.n W.c,.bool W.s',AT W.A' W.n' W.c',.bool W.s2,AT W.A2 W.n2 W.c2,AT W.B W.m W.d,v4 W.E]]) bf (oQ (a6 jb (eg.ext ((aq.ext ao (a6 aD.size gw_g352)).trans fm)).be) (by rw [←kn];exact ((aq.ext (((aj.ext (((ag.ext (((Y.ext (((U.ext ((H.ext (o.t F) (a6 o.size gw_g49)).trans V) (a6 (H.ext (o.t F) (a6 o.size gw_g49)).size gw_g298)).trans I).trans X) (a6 ((U.ext ((H.ext (o.t F) (a6 o.size gw_g49)).trans V) (a6 (H.ext (o.t F) (a6 o.size gw_g49)).size gw_g298)).trans I).size gw_g310)).trans Z).trans ab) (a6 ((Y.ext (((U.ext ((H.ext (o.t F) (a6 o.size gw_g49)).trans V) (a6 (H.ext (o.t F) (a6 o.size gw_g49)).size gw_g298)).trans I).trans X) (a6 ((U.ext ((H.ext (o.t F) (a6 o.size gw_g49)).trans V) (a6 (H.ext (o.t F) (a6 o.size gw_g49)).size gw_g298)).trans I).size gw_g310)).trans Z).size gw_g324)).trans ae).trans ai) (a6 ((ag.ext (((Y.ext (((U.ext ((H.ext (o.t F) (a6 o.size gw_g49)).trans V) (a6 (H.ext (o.t F) (a6 o.size gw_g49)).size gw_g298)).trans I).trans X) (a6 ((U.ext ((H.ext (o.t F) (a6 o.size gw_g49)).trans V) (a6 (H.ext (o.t F) (a6 o.size gw_g49)).size gw_g298)).trans I).size gw_g310)).trans Z).trans ab) (a6 ((Y.ext (((U.ext ((H.ext (o.t F) (a6 o.size gw_g49)).trans V) (a6 (H.ext (o.t F) (a6 o.size gw_g49)).size gw_g298)).trans I).trans X) (a6 ((U.ext ((H.ext (o.t F) (a6 o.size gw_g49)).trans V) (a6 (H.ext (o.t F) (a6 o.size gw_g49)).size gw_g298)).trans I).size gw_g310)).trans Z).size gw_g324)).trans ae).size gw_g338)).trans ak).trans ao) (a6 ((aj.ext (((ag.ext (((Y.ext (((U.ext ((H.ext (o.t F) (a6 o.size gw_g49)).trans V) (a6 (H.ext (o.t F) (a6 o.size gw_g49)).size gw_g298)).trans I).trans X) (a6 ((U.ext ((H.ext (o.t F) (a6 o.size gw_g49)).trans V) (a6 (H.ext (o.t F) (a6 o.size gw_g49)).size gw_g298)).trans I).size gw_g310)).trans Z).trans ab) (a6 ((Y.ext (((U.ext ((H.ext (o.t F) (a6 o.size gw_g49)).trans V) (a6 (H.ext (o.t F) (a6 o.size gw_g49)).size gw_g298)).trans I).trans X) (a6 ((U.ext ((H.ext (o.t F) (a6 o.size gw_g49)).trans V) (a6 (H.ext (o.t F) (a6 o.size gw_g49)).size gw_g298)).trans I).size gw_g310)).trans Z).size gw_g324)).trans ae).trans ai) (a6 ((ag.ext (((Y.ext (((U.ext ((H.ext (o.t F) (a6 o.size gw_g49)).trans V) (a6 (H.ext (o.t F) (a6 o.size gw_g49)).size gw_g298)).trans I).trans X) (a6 ((U.ext ((H.ext (o.t F) (a6 o.size gw_g49)).trans V) (a6 (H.ext (o.t F) (a6 o.size gw_g49)).size gw_g298)).trans I).size gw_g310)).trans Z).trans ab) (a6 ((Y.ext (((U.ext ((H.ext (o.t F) (a6 o.size gw_g49)).trans V) (a6 (H.ext (o.t F) (a6 o.size gw_g49)).size gw_g298)).trans I).trans X) (a6 ((U.ext ((H.ext (o.t F) (a6 o.size gw_g49)).trans V) (a6 (H.ext (o.t F) (a6 o.size gw_g49)).size gw_g298)).trans I).size gw_g310)).trans Z).size gw_g324)).trans ae).size gw_g338)).trans ak).size gw_g352)).trans fm).size) kw (eg.ext ((aq.ext ao (a6 aD.size gw_g352)).trans fm)).toR (ju.ext ((aq.ext (((aj.ext (((ag.ext (((Y.ext (((U.ext ((H.ext F (a6 aD.size gw_g49)).trans V) (a6 (H.ext F (a6 aD.size gw_g49)).size gw_g298)).trans I).trans X) (a6 ((U.ext ((H.ext F (a6 aD.size gw_g49)).trans V) (a6 (H.ext F (a6 aD.size gw_g49)).size gw_g298)).trans I).size gw_g310)).trans Z).trans ab) (a6 ((Y.ext (((U.ext ((H.ext F (a6 aD.size gw_g49)).trans V) (a6 (H.ext F (a6 aD.size gw_g49)).size gw_g298)).trans I).trans X) (a6 ((U.ext ((H.ext F (a6 aD.size gw_g49)).trans V) (a6 (H.ext F (a6 aD.size gw_g49)).size gw_g298)).trans I).size gw_g310)).trans Z).size gw_g324)).trans ae).trans ai) (a6 ((ag.ext (((Y.ext (((U.ext ((H.ext F (a6 aD.size gw_g49)).trans V) (a6 (H.ext F (a6 aD.size gw_g49)).size gw_g298)).trans I).trans X) (a6 ((U.ext ((H.ext F (a6 aD.size gw_g49)).trans V) (a6 (H.ext F (a6 aD.size gw_g49)).size gw_g298)).trans I).size gw_g310)).trans Z).trans ab) (a6 ((Y.ext (((U.ext ((H.ext F (a6 aD.size gw_g49)).trans V) (a6 (H.ext F (a6 aD.size gw_g49)).size gw_g298)).trans I).trans X) (a6 ((U.ext ((H.ext F (a6 aD.size gw_g49)).trans V) (a6 (H.ext F (a6 aD.size gw_g49)).size gw_g298)).trans I).size gw_g310)).trans Z).size gw_g324)).trans ae).size gw_g338)).trans ak).trans ao) (a6 ((aj.ext (((ag.ext (((Y.ext (((U.ext ((H.ext F (a6 aD.size gw_g49)).trans V) (a6 (H.ext F (a6 aD.size gw_g49)).size gw_g298)).trans I).trans X) (a6 ((U.ext ((H.ext F (a6 aD.size gw_g49)).trans V) (a6 (H.ext F (a6 aD.size gw_g49)).size gw_g298)).trans I).size gw_g310)).trans Z).trans ab) (a6 ((Y.ext (((U.ext ((H.ext F (a6 aD.size gw_g49)).trans V) (a6 (H.ext F (a6 aD.size gw_g49)).size gw_g298)).trans I).trans X) (a6 ((U.ext ((H.ext F (a6 aD.size gw_g49)).trans V) (a6 (H.ext F (a6 aD.size gw_g49)).size gw_g298)).trans I).size gw_g310)).trans Z).size gw_g324)).trans ae).trans ai) (a6 ((ag.ext (((Y.ext (((U.ext ((H.ext F (a6 aD.size gw_g49)).trans V) (a6 (H.ext F (a6 aD.size gw_g49)).size gw_g298)).trans I).trans X) (a6 ((U.ext ((H.ext F (a6 aD.size gw_g49)).trans V) (a6 (H.ext F (a6 aD.size gw_g49)).size gw_g298)).trans I).size gw_g310)).trans Z).trans ab) (a6 ((Y.ext (((U.ext ((H.ext F (a6 aD.size gw_g49)).trans V) (a6 (H.ext F (a6 aD.size gw_g49)).size gw_g298)).trans I).trans X) (a6 ((U.ext ((H.ext F (a6 aD.size gw_g49)).trans V) (a6 (H.ext F (a6 aD.size gw_g49)).size gw_g298)).trans I).size gw_g310)).trans Z).size gw_g324)).trans ae).size gw_g338)).trans ak).size gw_g352)).trans fm))) G (by kernel_rfl) fun _ _ Cx Ai iu=>?_))))
   obtain rfl:=Cx
   exact aE G Ai rfl
  ·exact fun _ _=>dk G G (dk G G (aB (pu (v:= BY) G (aE G aD G))))
  ·exact fun _ _=>dk G G (dk G G (aB (pu (v:= BY) G (aE G aD G))))
  ·exact fun _ _=>dk G G (aB (mv 1 G (aE G aD G)))
  ·exact fun _ xq=>dk G G (aB (lo bU (((ib.ext (ak.t ao)).vN aq).ext xq) [.bool rz.s,AT rz.A rz.n rz.c,.bool rz.s',AT rz.A' rz.n' rz.c',.bool rz.s2,AT rz.A2 rz.n2 rz.c2,AT rz.B rz.m rz.d,v4 rz.E] G G G (aE G aD G)))
  ·exact fun _ vv=>dk G G (aB (lo j7 (((((((((ia.ext (I.t X)).vN Y).ext (Z.t ab)).vN ag).ext (ae.t ai)).vN aj).ext (ak.t ao)).vN aq).ext vv) [v4 k,.bool de,AT ct dh cp,.bool cy,AT dg cv dd,.bool cx,AT cm ck co,.bool df,AT da ci cu,AT (some ⟨cz,0,none⟩) 2 2,AT (some ⟨cn,0,none⟩) 2 2] G G G (aE G aD G)))
  ·intro _ oz
   have bf:=el.trans oz
   refine dk G G (dk G G (aB (cl (vs:= [.agg #[v4 k,.bool de,AT ct dh cp,.bool cy,AT dg cv dd,.bool cx,AT cm ck co,.bool df,AT da ci cu,AT (some ⟨cz,0,none⟩) 2 2,AT (some ⟨cn,0,none⟩) 2 2]]) bf (yE bf.size (((cg.updT dz U).ext ((aq.ext (((aj.ext (((ag.ext (((Y.ext (I.t X) (a6 I.size gw_g310)).trans Z).trans ab) (a6 ((Y.ext (I.t X) (a6 I.size gw_g310)).trans Z).size gw_g324)).trans ae).trans ai) (a6 ((ag.ext (((Y.ext (I.t X) (a6 I.size gw_g310)).trans Z).trans ab) (a6 ((Y.ext (I.t X) (a6 I.size gw_g310)).trans Z).size gw_g324)).trans ae).size gw_g338)).trans ak).trans ao) (a6 ((aj.ext (((ag.ext (((Y.ext (I.t X) (a6 I.size gw_g310)).trans Z).trans ab) (a6 ((Y.ext (I.t X) (a6 I.size gw_g310)).trans Z).size gw_g324)).trans ae).trans ai) (a6 ((ag.ext (((Y.ext (I.t X) (a6 I.size gw_g310)).trans Z).trans ab) (a6 ((Y.ext (I.t X) (a6 I.size gw_g310)).trans Z).size gw_g324)).trans ae).size gw_g338)).trans ak).size gw_g352)).trans oz)).op6 (by decide+kernel) (by decide+kernel) (by decide+kernel) (by decide+kernel) (by decide+kernel) (by decide+kernel) (by decide+kernel) (by decide+kernel)) mq) G (by kernel_rfl) fun _ _ wu Bx iu=>?_)))
   obtain⟨_,rfl,sy⟩:=AnsR6.cells wu
   exact aE G Bx sy
  ·intro _ lu
   have bf:=el.trans lu
   refine dk G G (dk G G (aO G G fun _ _ Br _ tz=>?_))
   obtain⟨bc,rfl,gf⟩:=AnsR6.cells Br
   have gf:=gf.ext tz
   refine aB (cl (vs:= [.agg #[.bool rz.s,AT rz.A rz.n rz.c,.bool rz.s',AT rz.A' rz.n' rz.c',.bool rz.s2,AT rz.A2 rz.n2 rz.c2,AT rz.B rz.m rz.d,v4 rz.E],.agg #[.bool bc.s,AT bc.A bc.n bc.c,.bool bc.s',AT bc.A' bc.n' bc.c',.bool bc.s2,AT bc.A2 bc.n2 bc.c2,AT bc.B bc.m bc.d,v4 bc.E]]) bf (oQ (a6 jy (fh.ext ((aq.ext (((aj.ext ai (a6 aD.size gw_g338)).trans ak).trans ao) (a6 ((aj.ext ai (a6 aD.size gw_g338)).trans ak).size gw_g352)).trans lu)).be) bf.size Fb (fh.ext ((aq.ext (((aj.ext ai (a6 aD.size gw_g338)).trans ak).trans ao) (a6 ((aj.ext ai (a6 aD.size gw_g338)).trans ak).size gw_g352)).trans lu)).toR gf) G (by kernel_rfl) fun _ _ Cq yx iu=>?_)
   obtain rfl:=Cq
   exact aE G yx rfl
  ·exact fun _ _=>dk G G (dk G G (aB (pu (v:= BY) G (aE G aD G))))
  ·exact fun _ _=>dk G G (dk G G (aB (pu (v:= BY) G (aE G aD G))))
  ·intro pg az
   have bf:=el.trans az
   refine dk G G (dk G G (dk G G (dk G G (dk G G (dk G G (dk G G (dk G G (dk G G (dk G G (dk G G (dk G G (dk G G (dk G G ?_)))))))))))))
   refine dk G G (dk G G (dk G G (dk G G (dk G G (dk G G (aO G G fun _ _ wm _ Bg=>?_))))))
   obtain⟨_,rfl,kv⟩:=AnsR6.cells wm
   have kv:=kv.ext Bg
   refine dk G G (dk G G (dk G G (aB (aR (cF (aK (aV G (b8 (aK (sr (mv 2 G (pu (v:= v4 (((4+n1+n2):Nat):Int)) G ?_))))))))))))
   have hX:=(hX.ext ((aq.ext (((aj.ext (((ag.ext (((Y.ext (((U.ext ((H.ext (((E.ext (f.t D) (a6 f.size gw_g34)).trans o).trans F) (a6 ((E.ext (f.t D) (a6 f.size gw_g34)).trans o).size gw_g49)).trans V) (a6 (H.ext (((E.ext (f.t D) (a6 f.size gw_g34)).trans o).trans F) (a6 ((E.ext (f.t D) (a6 f.size gw_g34)).trans o).size gw_g49)).size gw_g298)).trans I).trans X) (a6 ((U.ext ((H.ext (((E.ext (f.t D) (a6 f.size gw_g34)).trans o).trans F) (a6 ((E.ext (f.t D) (a6 f.size gw_g34)).trans o).size gw_g49)).trans V) (a6 (H.ext (((E.ext (f.t D) (a6 f.size gw_g34)).trans o).trans F) (a6 ((E.ext (f.t D) (a6 f.size gw_g34)).trans o).size gw_g49)).size gw_g298)).trans I).size gw_g310)).trans Z).trans ab) (a6 ((Y.ext (((U.ext ((H.ext (((E.ext (f.t D) (a6 f.size gw_g34)).trans o).trans F) (a6 ((E.ext (f.t D) (a6 f.size gw_g34)).trans o).size gw_g49)).trans V) (a6 (H.ext (((E.ext (f.t D) (a6 f.size gw_g34)).trans o).trans F) (a6 ((E.ext (f.t D) (a6 f.size gw_g34)).trans o).size gw_g49)).size gw_g298)).trans I).trans X) (a6 ((U.ext ((H.ext (((E.ext (f.t D) (a6 f.size gw_g34)).trans o).trans F) (a6 ((E.ext (f.t D) (a6 f.size gw_g34)).trans o).size gw_g49)).trans V) (a6 (H.ext (((E.ext (f.t D) (a6 f.size gw_g34)).trans o).trans F) (a6 ((E.ext (f.t D) (a6 f.size gw_g34)).trans o).size gw_g49)).size gw_g298)).trans I).size gw_g310)).trans Z).size gw_g324)).trans ae).trans ai) (a6 ((ag.ext (((Y.ext (((U.ext ((H.ext (((E.ext (f.t D) (a6 f.size gw_g34)).trans o).trans F) (a6 ((E.ext (f.t D) (a6 f.size gw_g34)).trans o).size gw_g49)).trans V) (a6 (H.ext (((E.ext (f.t D) (a6 f.size gw_g34)).trans o).trans F) (a6 ((E.ext (f.t D) (a6 f.size gw_g34)).trans o).size gw_g49)).size gw_g298)).trans I).trans X) (a6 ((U.ext ((H.ext (((E.ext (f.t D) (a6 f.size gw_g34)).trans o).trans F) (a6 ((E.ext (f.t D) (a6 f.size gw_g34)).trans o).size gw_g49)).trans V) (a6 (H.ext (((E.ext (f.t D) (a6 f.size gw_g34)).trans o).trans F) (a6 ((E.ext (f.t D) (a6 f.size gw_g34)).trans o).size gw_g49)).size gw_g298)).trans I).size gw_g310)).trans Z).trans ab) (a6 ((Y.ext (((U.ext ((H.ext (((E.ext (f.t D) (a6 f.size gw_g34)).trans o).trans F) (a6 ((E.ext (f.t D) (a6 f.size gw_g34)).trans o).size gw_g49)).trans V) (a6 (H.ext (((E.ext (f.t D) (a6 f.size gw_g34)).trans o).trans F) (a6 ((E.ext (f.t D) (a6 f.size gw_g34)).trans o).size gw_g49)).size gw_g298)).trans I).trans X) (a6 ((U.ext ((H.ext (((E.ext (f.t D) (a6 f.size gw_g34)).trans o).trans F) (a6 ((E.ext (f.t D) (a6 f.size gw_g34)).trans o).size gw_g49)).trans V) (a6 (H.ext (((E.ext (f.t D) (a6 f.size gw_g34)).trans o).trans F) (a6 ((E.ext (f.t D) (a6 f.size gw_g34)).trans o).size gw_g49)).size gw_g298)).trans I).size gw_g310)).trans Z).size gw_g324)).trans ae).size gw_g338)).trans ak).trans ao) (a6 ((aj.ext (((ag.ext (((Y.ext (((U.ext ((H.ext (((E.ext (f.t D) (a6 f.size gw_g34)).trans o).trans F) (a6 ((E.ext (f.t D) (a6 f.size gw_g34)).trans o).size gw_g49)).trans V) (a6 (H.ext (((E.ext (f.t D) (a6 f.size gw_g34)).trans o).trans F) (a6 ((E.ext (f.t D) (a6 f.size gw_g34)).trans o).size gw_g49)).size gw_g298)).trans I).trans X) (a6 ((U.ext ((H.ext (((E.ext (f.t D) (a6 f.size gw_g34)).trans o).trans F) (a6 ((E.ext (f.t D) (a6 f.size gw_g34)).trans o).size gw_g49)).trans V) (a6 (H.ext (((E.ext (f.t D) (a6 f.size gw_g34)).trans o).trans F) (a6 ((E.ext (f.t D) (a6 f.size gw_g34)).trans o).size gw_g49)).size gw_g298)).trans I).size gw_g310)).trans Z).trans ab) (a6 ((Y.ext (((U.ext ((H.ext (((E.ext (f.t D) (a6 f.size gw_g34)).trans o).trans F) (a6 ((E.ext (f.t D) (a6 f.size gw_g34)).trans o).size gw_g49)).trans V) (a6 (H.ext (((E.ext (f.t D) (a6 f.size gw_g34)).trans o).trans F) (a6 ((E.ext (f.t D) (a6 f.size gw_g34)).trans o).size gw_g49)).size gw_g298)).trans I).trans X) (a6 ((U.ext ((H.ext (((E.ext (f.t D) (a6 f.size gw_g34)).trans o).trans F) (a6 ((E.ext (f.t D) (a6 f.size gw_g34)).trans o).size gw_g49)).trans V) (a6 (H.ext (((E.ext (f.t D) (a6 f.size gw_g34)).trans o).trans F) (a6 ((E.ext (f.t D) (a6 f.size gw_g34)).trans o).size gw_g49)).size gw_g298)).trans I).size gw_g310)).trans Z).size gw_g324)).trans ae).trans ai) (a6 ((ag.ext (((Y.ext (((U.ext ((H.ext (((E.ext (f.t D) (a6 f.size gw_g34)).trans o).trans F) (a6 ((E.ext (f.t D) (a6 f.size gw_g34)).trans o).size gw_g49)).trans V) (a6 (H.ext (((E.ext (f.t D) (a6 f.size gw_g34)).trans o).trans F) (a6 ((E.ext (f.t D) (a6 f.size gw_g34)).trans o).size gw_g49)).size gw_g298)).trans I).trans X) (a6 ((U.ext ((H.ext (((E.ext (f.t D) (a6 f.size gw_g34)).trans o).trans F) (a6 ((E.ext (f.t D) (a6 f.size gw_g34)).trans o).size gw_g49)).trans V) (a6 (H.ext (((E.ext (f.t D) (a6 f.size gw_g34)).trans o).trans F) (a6 ((E.ext (f.t D) (a6 f.size gw_g34)).trans o).size gw_g49)).size gw_g298)).trans I).size gw_g310)).trans Z).trans ab) (a6 ((Y.ext (((U.ext ((H.ext (((E.ext (f.t D) (a6 f.size gw_g34)).trans o).trans F) (a6 ((E.ext (f.t D) (a6 f.size gw_g34)).trans o).size gw_g49)).trans V) (a6 (H.ext (((E.ext (f.t D) (a6 f.size gw_g34)).trans o).trans F) (a6 ((E.ext (f.t D) (a6 f.size gw_g34)).trans o).size gw_g49)).size gw_g298)).trans I).trans X) (a6 ((U.ext ((H.ext (((E.ext (f.t D) (a6 f.size gw_g34)).trans o).trans F) (a6 ((E.ext (f.t D) (a6 f.size gw_g34)).trans o).size gw_g49)).trans V) (a6 (H.ext (((E.ext (f.t D) (a6 f.size gw_g34)).trans o).trans F) (a6 ((E.ext (f.t D) (a6 f.size gw_g34)).trans o).size gw_g49)).size gw_g298)).trans I).size gw_g310)).trans Z).size gw_g324)).trans ae).size gw_g338)).trans ak).size gw_g352)).trans az))
   have hW:=(hW.ext ((aq.ext (((aj.ext (((ag.ext (((Y.ext (((U.ext ((H.ext (((E.ext (f.t D) (a6 f.size gw_g34)).trans o).trans F) (a6 ((E.ext (f.t D) (a6 f.size gw_g34)).trans o).size gw_g49)).trans V) (a6 (H.ext (((E.ext (f.t D) (a6 f.size gw_g34)).trans o).trans F) (a6 ((E.ext (f.t D) (a6 f.size gw_g34)).trans o).size gw_g49)).size gw_g298)).trans I).trans X) (a6 ((U.ext ((H.ext (((E.ext (f.t D) (a6 f.size gw_g34)).trans o).trans F) (a6 ((E.ext (f.t D) (a6 f.size gw_g34)).trans o).size gw_g49)).trans V) (a6 (H.ext (((E.ext (f.t D) (a6 f.size gw_g34)).trans o).trans F) (a6 ((E.ext (f.t D) (a6 f.size gw_g34)).trans o).size gw_g49)).size gw_g298)).trans I).size gw_g310)).trans Z).trans ab) (a6 ((Y.ext (((U.ext ((H.ext (((E.ext (f.t D) (a6 f.size gw_g34)).trans o).trans F) (a6 ((E.ext (f.t D) (a6 f.size gw_g34)).trans o).size gw_g49)).trans V) (a6 (H.ext (((E.ext (f.t D) (a6 f.size gw_g34)).trans o).trans F) (a6 ((E.ext (f.t D) (a6 f.size gw_g34)).trans o).size gw_g49)).size gw_g298)).trans I).trans X) (a6 ((U.ext ((H.ext (((E.ext (f.t D) (a6 f.size gw_g34)).trans o).trans F) (a6 ((E.ext (f.t D) (a6 f.size gw_g34)).trans o).size gw_g49)).trans V) (a6 (H.ext (((E.ext (f.t D) (a6 f.size gw_g34)).trans o).trans F) (a6 ((E.ext (f.t D) (a6 f.size gw_g34)).trans o).size gw_g49)).size gw_g298)).trans I).size gw_g310)).trans Z).size gw_g324)).trans ae).trans ai) (a6 ((ag.ext (((Y.ext (((U.ext ((H.ext (((E.ext (f.t D) (a6 f.size gw_g34)).trans o).trans F) (a6 ((E.ext (f.t D) (a6 f.size gw_g34)).trans o).size gw_g49)).trans V) (a6 (H.ext (((E.ext (f.t D) (a6 f.size gw_g34)).trans o).trans F) (a6 ((E.ext (f.t D) (a6 f.size gw_g34)).trans o).size gw_g49)).size gw_g298)).trans I).trans X) (a6 ((U.ext ((H.ext (((E.ext (f.t D) (a6 f.size gw_g34)).trans o).trans F) (a6 ((E.ext (f.t D) (a6 f.size gw_g34)).trans o).size gw_g49)).trans V) (a6 (H.ext (((E.ext (f.t D) (a6 f.size gw_g34)).trans o).trans F) (a6 ((E.ext (f.t D) (a6 f.size gw_g34)).trans o).size gw_g49)).size gw_g298)).trans I).size gw_g310)).trans Z).trans ab) (a6 ((Y.ext (((U.ext ((H.ext (((E.ext (f.t D) (a6 f.size gw_g34)).trans o).trans F) (a6 ((E.ext (f.t D) (a6 f.size gw_g34)).trans o).size gw_g49)).trans V) (a6 (H.ext (((E.ext (f.t D) (a6 f.size gw_g34)).trans o).trans F) (a6 ((E.ext (f.t D) (a6 f.size gw_g34)).trans o).size gw_g49)).size gw_g298)).trans I).trans X) (a6 ((U.ext ((H.ext (((E.ext (f.t D) (a6 f.size gw_g34)).trans o).trans F) (a6 ((E.ext (f.t D) (a6 f.size gw_g34)).trans o).size gw_g49)).trans V) (a6 (H.ext (((E.ext (f.t D) (a6 f.size gw_g34)).trans o).trans F) (a6 ((E.ext (f.t D) (a6 f.size gw_g34)).trans o).size gw_g49)).size gw_g298)).trans I).size gw_g310)).trans Z).size gw_g324)).trans ae).size gw_g338)).trans ak).trans ao) (a6 ((aj.ext (((ag.ext (((Y.ext (((U.ext ((H.ext (((E.ext (f.t D) (a6 f.size gw_g34)).trans o).trans F) (a6 ((E.ext (f.t D) (a6 f.size gw_g34)).trans o).size gw_g49)).trans V) (a6 (H.ext (((E.ext (f.t D) (a6 f.size gw_g34)).trans o).trans F) (a6 ((E.ext (f.t D) (a6 f.size gw_g34)).trans o).size gw_g49)).size gw_g298)).trans I).trans X) (a6 ((U.ext ((H.ext (((E.ext (f.t D) (a6 f.size gw_g34)).trans o).trans F) (a6 ((E.ext (f.t D) (a6 f.size gw_g34)).trans o).size gw_g49)).trans V) (a6 (H.ext (((E.ext (f.t D) (a6 f.size gw_g34)).trans o).trans F) (a6 ((E.ext (f.t D) (a6 f.size gw_g34)).trans o).size gw_g49)).size gw_g298)).trans I).size gw_g310)).trans Z).trans ab) (a6 ((Y.ext (((U.ext ((H.ext (((E.ext (f.t D) (a6 f.size gw_g34)).trans o).trans F) (a6 ((E.ext (f.t D) (a6 f.size gw_g34)).trans o).size gw_g49)).trans V) (a6 (H.ext (((E.ext (f.t D) (a6 f.size gw_g34)).trans o).trans F) (a6 ((E.ext (f.t D) (a6 f.size gw_g34)).trans o).size gw_g49)).size gw_g298)).trans I).trans X) (a6 ((U.ext ((H.ext (((E.ext (f.t D) (a6 f.size gw_g34)).trans o).trans F) (a6 ((E.ext (f.t D) (a6 f.size gw_g34)).trans o).size gw_g49)).trans V) (a6 (H.ext (((E.ext (f.t D) (a6 f.size gw_g34)).trans o).trans F) (a6 ((E.ext (f.t D) (a6 f.size gw_g34)).trans o).size gw_g49)).size gw_g298)).trans I).size gw_g310)).trans Z).size gw_g324)).trans ae).trans ai) (a6 ((ag.ext (((Y.ext (((U.ext ((H.ext (((E.ext (f.t D) (a6 f.size gw_g34)).trans o).trans F) (a6 ((E.ext (f.t D) (a6 f.size gw_g34)).trans o).size gw_g49)).trans V) (a6 (H.ext (((E.ext (f.t D) (a6 f.size gw_g34)).trans o).trans F) (a6 ((E.ext (f.t D) (a6 f.size gw_g34)).trans o).size gw_g49)).size gw_g298)).trans I).trans X) (a6 ((U.ext ((H.ext (((E.ext (f.t D) (a6 f.size gw_g34)).trans o).trans F) (a6 ((E.ext (f.t D) (a6 f.size gw_g34)).trans o).size gw_g49)).trans V) (a6 (H.ext (((E.ext (f.t D) (a6 f.size gw_g34)).trans o).trans F) (a6 ((E.ext (f.t D) (a6 f.size gw_g34)).trans o).size gw_g49)).size gw_g298)).trans I).size gw_g310)).trans Z).trans ab) (a6 ((Y.ext (((U.ext ((H.ext (((E.ext (f.t D) (a6 f.size gw_g34)).trans o).trans F) (a6 ((E.ext (f.t D) (a6 f.size gw_g34)).trans o).size gw_g49)).trans V) (a6 (H.ext (((E.ext (f.t D) (a6 f.size gw_g34)).trans o).trans F) (a6 ((E.ext (f.t D) (a6 f.size gw_g34)).trans o).size gw_g49)).size gw_g298)).trans I).trans X) (a6 ((U.ext ((H.ext (((E.ext (f.t D) (a6 f.size gw_g34)).trans o).trans F) (a6 ((E.ext (f.t D) (a6 f.size gw_g34)).trans o).size gw_g49)).trans V) (a6 (H.ext (((E.ext (f.t D) (a6 f.size gw_g34)).trans o).trans F) (a6 ((E.ext (f.t D) (a6 f.size gw_g34)).trans o).size gw_g49)).size gw_g298)).trans I).size gw_g310)).trans Z).size gw_g324)).trans ae).size gw_g338)).trans ak).size gw_g352)).trans az))
   have hF:=(hF.ext ((aq.ext (((aj.ext (((ag.ext (((Y.ext (((U.ext ((H.ext (((E.ext (f.t D) (a6 f.size gw_g34)).trans o).trans F) (a6 ((E.ext (f.t D) (a6 f.size gw_g34)).trans o).size gw_g49)).trans V) (a6 (H.ext (((E.ext (f.t D) (a6 f.size gw_g34)).trans o).trans F) (a6 ((E.ext (f.t D) (a6 f.size gw_g34)).trans o).size gw_g49)).size gw_g298)).trans I).trans X) (a6 ((U.ext ((H.ext (((E.ext (f.t D) (a6 f.size gw_g34)).trans o).trans F) (a6 ((E.ext (f.t D) (a6 f.size gw_g34)).trans o).size gw_g49)).trans V) (a6 (H.ext (((E.ext (f.t D) (a6 f.size gw_g34)).trans o).trans F) (a6 ((E.ext (f.t D) (a6 f.size gw_g34)).trans o).size gw_g49)).size gw_g298)).trans I).size gw_g310)).trans Z).trans ab) (a6 ((Y.ext (((U.ext ((H.ext (((E.ext (f.t D) (a6 f.size gw_g34)).trans o).trans F) (a6 ((E.ext (f.t D) (a6 f.size gw_g34)).trans o).size gw_g49)).trans V) (a6 (H.ext (((E.ext (f.t D) (a6 f.size gw_g34)).trans o).trans F) (a6 ((E.ext (f.t D) (a6 f.size gw_g34)).trans o).size gw_g49)).size gw_g298)).trans I).trans X) (a6 ((U.ext ((H.ext (((E.ext (f.t D) (a6 f.size gw_g34)).trans o).trans F) (a6 ((E.ext (f.t D) (a6 f.size gw_g34)).trans o).size gw_g49)).trans V) (a6 (H.ext (((E.ext (f.t D) (a6 f.size gw_g34)).trans o).trans F) (a6 ((E.ext (f.t D) (a6 f.size gw_g34)).trans o).size gw_g49)).size gw_g298)).trans I).size gw_g310)).trans Z).size gw_g324)).trans ae).trans ai) (a6 ((ag.ext (((Y.ext (((U.ext ((H.ext (((E.ext (f.t D) (a6 f.size gw_g34)).trans o).trans F) (a6 ((E.ext (f.t D) (a6 f.size gw_g34)).trans o).size gw_g49)).trans V) (a6 (H.ext (((E.ext (f.t D) (a6 f.size gw_g34)).trans o).trans F) (a6 ((E.ext (f.t D) (a6 f.size gw_g34)).trans o).size gw_g49)).size gw_g298)).trans I).trans X) (a6 ((U.ext ((H.ext (((E.ext (f.t D) (a6 f.size gw_g34)).trans o).trans F) (a6 ((E.ext (f.t D) (a6 f.size gw_g34)).trans o).size gw_g49)).trans V) (a6 (H.ext (((E.ext (f.t D) (a6 f.size gw_g34)).trans o).trans F) (a6 ((E.ext (f.t D) (a6 f.size gw_g34)).trans o).size gw_g49)).size gw_g298)).trans I).size gw_g310)).trans Z).trans ab) (a6 ((Y.ext (((U.ext ((H.ext (((E.ext (f.t D) (a6 f.size gw_g34)).trans o).trans F) (a6 ((E.ext (f.t D) (a6 f.size gw_g34)).trans o).size gw_g49)).trans V) (a6 (H.ext (((E.ext (f.t D) (a6 f.size gw_g34)).trans o).trans F) (a6 ((E.ext (f.t D) (a6 f.size gw_g34)).trans o).size gw_g49)).size gw_g298)).trans I).trans X) (a6 ((U.ext ((H.ext (((E.ext (f.t D) (a6 f.size gw_g34)).trans o).trans F) (a6 ((E.ext (f.t D) (a6 f.size gw_g34)).trans o).size gw_g49)).trans V) (a6 (H.ext (((E.ext (f.t D) (a6 f.size gw_g34)).trans o).trans F) (a6 ((E.ext (f.t D) (a6 f.size gw_g34)).trans o).size gw_g49)).size gw_g298)).trans I).size gw_g310)).trans Z).size gw_g324)).trans ae).size gw_g338)).trans ak).trans ao) (a6 ((aj.ext (((ag.ext (((Y.ext (((U.ext ((H.ext (((E.ext (f.t D) (a6 f.size gw_g34)).trans o).trans F) (a6 ((E.ext (f.t D) (a6 f.size gw_g34)).trans o).size gw_g49)).trans V) (a6 (H.ext (((E.ext (f.t D) (a6 f.size gw_g34)).trans o).trans F) (a6 ((E.ext (f.t D) (a6 f.size gw_g34)).trans o).size gw_g49)).size gw_g298)).trans I).trans X) (a6 ((U.ext ((H.ext (((E.ext (f.t D) (a6 f.size gw_g34)).trans o).trans F) (a6 ((E.ext (f.t D) (a6 f.size gw_g34)).trans o).size gw_g49)).trans V) (a6 (H.ext (((E.ext (f.t D) (a6 f.size gw_g34)).trans o).trans F) (a6 ((E.ext (f.t D) (a6 f.size gw_g34)).trans o).size gw_g49)).size gw_g298)).trans I).size gw_g310)).trans Z).trans ab) (a6 ((Y.ext (((U.ext ((H.ext (((E.ext (f.t D) (a6 f.size gw_g34)).trans o).trans F) (a6 ((E.ext (f.t D) (a6 f.size gw_g34)).trans o).size gw_g49)).trans V) (a6 (H.ext (((E.ext (f.t D) (a6 f.size gw_g34)).trans o).trans F) (a6 ((E.ext (f.t D) (a6 f.size gw_g34)).trans o).size gw_g49)).size gw_g298)).trans I).trans X) (a6 ((U.ext ((H.ext (((E.ext (f.t D) (a6 f.size gw_g34)).trans o).trans F) (a6 ((E.ext (f.t D) (a6 f.size gw_g34)).trans o).size gw_g49)).trans V) (a6 (H.ext (((E.ext (f.t D) (a6 f.size gw_g34)).trans o).trans F) (a6 ((E.ext (f.t D) (a6 f.size gw_g34)).trans o).size gw_g49)).size gw_g298)).trans I).size gw_g310)).trans Z).size gw_g324)).trans ae).trans ai) (a6 ((ag.ext (((Y.ext (((U.ext ((H.ext (((E.ext (f.t D) (a6 f.size gw_g34)).trans o).trans F) (a6 ((E.ext (f.t D) (a6 f.size gw_g34)).trans o).size gw_g49)).trans V) (a6 (H.ext (((E.ext (f.t D) (a6 f.size gw_g34)).trans o).trans F) (a6 ((E.ext (f.t D) (a6 f.size gw_g34)).trans o).size gw_g49)).size gw_g298)).trans I).trans X) (a6 ((U.ext ((H.ext (((E.ext (f.t D) (a6 f.size gw_g34)).trans o).trans F) (a6 ((E.ext (f.t D) (a6 f.size gw_g34)).trans o).size gw_g49)).trans V) (a6 (H.ext (((E.ext (f.t D) (a6 f.size gw_g34)).trans o).trans F) (a6 ((E.ext (f.t D) (a6 f.size gw_g34)).trans o).size gw_g49)).size gw_g298)).trans I).size gw_g310)).trans Z).trans ab) (a6 ((Y.ext (((U.ext ((H.ext (((E.ext (f.t D) (a6 f.size gw_g34)).trans o).trans F) (a6 ((E.ext (f.t D) (a6 f.size gw_g34)).trans o).size gw_g49)).trans V) (a6 (H.ext (((E.ext (f.t D) (a6 f.size gw_g34)).trans o).trans F) (a6 ((E.ext (f.t D) (a6 f.size gw_g34)).trans o).size gw_g49)).size gw_g298)).trans I).trans X) (a6 ((U.ext ((H.ext (((E.ext (f.t D) (a6 f.size gw_g34)).trans o).trans F) (a6 ((E.ext (f.t D) (a6 f.size gw_g34)).trans o).size gw_g49)).trans V) (a6 (H.ext (((E.ext (f.t D) (a6 f.size gw_g34)).trans o).trans F) (a6 ((E.ext (f.t D) (a6 f.size gw_g34)).trans o).size gw_g49)).size gw_g298)).trans I).size gw_g310)).trans Z).size gw_g324)).trans ae).size gw_g338)).trans ak).size gw_g352)).trans az))
   have rt:=((((((((((((((((((ei.ext fq).updOT dl (by decide) dw).updOT eh (by decide) fa).ext (aa.t (f.t D))).vN E).ext (o.t F)).vN H).ext V).vN U).ext (I.t X)).vN Y).ext (Z.t ab)).vN ag).ext (ae.t ai)).vN aj).ext (ak.t ao)).vN aq).ext az)
   have si:=(((((((((((((fw.ext (o.t F)).vN H).ext V).vN U).ext (I.t X)).vN Y).ext (Z.t ab)).vN ag).ext (ae.t ai)).vN aj).ext (ak.t ao)).vN aq).ext az)
   have lg:=(((((((((((ew.ext V).vN U).ext (I.t X)).vN Y).ext (Z.t ab)).vN ag).ext (ae.t ai)).vN aj).ext (ak.t ao)).vN aq).ext az)
   have mi:=(((((((jr.ext (Z.t ab)).vN ag).ext (ae.t ai)).vN aj).ext (ak.t ao)).vN aq).ext az)
   have io:=(((((gx.ext (ae.t ai)).vN aj).ext (ak.t ao)).vN aq).ext az)
   have ko:=(((ib.ext (ak.t ao)).vN aq).ext az)
   have ft:=(kz.ext az)
   have fe:=(fe.ext ((aq.ext (((aj.ext (((ag.ext (((Y.ext X (a6 aD.size gw_g310)).trans Z).trans ab) (a6 ((Y.ext X (a6 aD.size gw_g310)).trans Z).size gw_g324)).trans ae).trans ai) (a6 ((ag.ext (((Y.ext X (a6 aD.size gw_g310)).trans Z).trans ab) (a6 ((Y.ext X (a6 aD.size gw_g310)).trans Z).size gw_g324)).trans ae).size gw_g338)).trans ak).trans ao) (a6 ((aj.ext (((ag.ext (((Y.ext X (a6 aD.size gw_g310)).trans Z).trans ab) (a6 ((Y.ext X (a6 aD.size gw_g310)).trans Z).size gw_g324)).trans ae).trans ai) (a6 ((ag.ext (((Y.ext X (a6 aD.size gw_g310)).trans Z).trans ab) (a6 ((Y.ext X (a6 aD.size gw_g310)).trans Z).size gw_g324)).trans ae).size gw_g338)).trans ak).size gw_g352)).trans az))
   have dy:=(dy.ext ((aq.ext (((aj.ext (((ag.ext ab (a6 aD.size gw_g324)).trans ae).trans ai) (a6 ((ag.ext ab (a6 aD.size gw_g324)).trans ae).size gw_g338)).trans ak).trans ao) (a6 ((aj.ext (((ag.ext ab (a6 aD.size gw_g324)).trans ae).trans ai) (a6 ((ag.ext ab (a6 aD.size gw_g324)).trans ae).size gw_g338)).trans ak).size gw_g352)).trans az))
   have fh:=(fh.ext ((aq.ext (((aj.ext ai (a6 aD.size gw_g338)).trans ak).trans ao) (a6 ((aj.ext ai (a6 aD.size gw_g338)).trans ak).size gw_g352)).trans az))
   have eg:=(eg.ext ((aq.ext ao (a6 aD.size gw_g352)).trans az))
   have lv:=(ju.ext ((aq.ext (((aj.ext (((ag.ext (((Y.ext (((U.ext ((H.ext F (a6 aD.size gw_g49)).trans V) (a6 (H.ext F (a6 aD.size gw_g49)).size gw_g298)).trans I).trans X) (a6 ((U.ext ((H.ext F (a6 aD.size gw_g49)).trans V) (a6 (H.ext F (a6 aD.size gw_g49)).size gw_g298)).trans I).size gw_g310)).trans Z).trans ab) (a6 ((Y.ext (((U.ext ((H.ext F (a6 aD.size gw_g49)).trans V) (a6 (H.ext F (a6 aD.size gw_g49)).size gw_g298)).trans I).trans X) (a6 ((U.ext ((H.ext F (a6 aD.size gw_g49)).trans V) (a6 (H.ext F (a6 aD.size gw_g49)).size gw_g298)).trans I).size gw_g310)).trans Z).size gw_g324)).trans ae).trans ai) (a6 ((ag.ext (((Y.ext (((U.ext ((H.ext F (a6 aD.size gw_g49)).trans V) (a6 (H.ext F (a6 aD.size gw_g49)).size gw_g298)).trans I).trans X) (a6 ((U.ext ((H.ext F (a6 aD.size gw_g49)).trans V) (a6 (H.ext F (a6 aD.size gw_g49)).size gw_g298)).trans I).size gw_g310)).trans Z).trans ab) (a6 ((Y.ext (((U.ext ((H.ext F (a6 aD.size gw_g49)).trans V) (a6 (H.ext F (a6 aD.size gw_g49)).size gw_g298)).trans I).trans X) (a6 ((U.ext ((H.ext F (a6 aD.size gw_g49)).trans V) (a6 (H.ext F (a6 aD.size gw_g49)).size gw_g298)).trans I).size gw_g310)).trans Z).size gw_g324)).trans ae).size gw_g338)).trans ak).trans ao) (a6 ((aj.ext (((ag.ext (((Y.ext (((U.ext ((H.ext F (a6 aD.size gw_g49)).trans V) (a6 (H.ext F (a6 aD.size gw_g49)).size gw_g298)).trans I).trans X) (a6 ((U.ext ((H.ext F (a6 aD.size gw_g49)).trans V) (a6 (H.ext F (a6 aD.size gw_g49)).size gw_g298)).trans I).size gw_g310)).trans Z).trans ab) (a6 ((Y.ext (((U.ext ((H.ext F (a6 aD.size gw_g49)).trans V) (a6 (H.ext F (a6 aD.size gw_g49)).size gw_g298)).trans I).trans X) (a6 ((U.ext ((H.ext F (a6 aD.size gw_g49)).trans V) (a6 (H.ext F (a6 aD.size gw_g49)).size gw_g298)).trans I).size gw_g310)).trans Z).size gw_g324)).trans ae).trans ai) (a6 ((ag.ext (((Y.ext (((U.ext ((H.ext F (a6 aD.size gw_g49)).trans V) (a6 (H.ext F (a6 aD.size gw_g49)).size gw_g298)).trans I).trans X) (a6 ((U.ext ((H.ext F (a6 aD.size gw_g49)).trans V) (a6 (H.ext F (a6 aD.size gw_g49)).size gw_g298)).trans I).size gw_g310)).trans Z).trans ab) (a6 ((Y.ext (((U.ext ((H.ext F (a6 aD.size gw_g49)).trans V) (a6 (H.ext F (a6 aD.size gw_g49)).size gw_g298)).trans I).trans X) (a6 ((U.ext ((H.ext F (a6 aD.size gw_g49)).trans V) (a6 (H.ext F (a6 aD.size gw_g49)).size gw_g298)).trans I).size gw_g310)).trans Z).size gw_g324)).trans ae).size gw_g338)).trans ak).size gw_g352)).trans az))
   have fp:bw≤pg.heap.size:=by rw [←kn];exact ((aq.ext (((aj.ext (((ag.ext (((Y.ext (((U.ext ((H.ext (o.t F) (a6 o.size gw_g49)).trans V) (a6 (H.ext (o.t F) (a6 o.size gw_g49)).size gw_g298)).trans I).trans X) (a6 ((U.ext ((H.ext (o.t F) (a6 o.size gw_g49)).trans V) (a6 (H.ext (o.t F) (a6 o.size gw_g49)).size gw_g298)).trans I).size gw_g310)).trans Z).trans ab) (a6 ((Y.ext (((U.ext ((H.ext (o.t F) (a6 o.size gw_g49)).trans V) (a6 (H.ext (o.t F) (a6 o.size gw_g49)).size gw_g298)).trans I).trans X) (a6 ((U.ext ((H.ext (o.t F) (a6 o.size gw_g49)).trans V) (a6 (H.ext (o.t F) (a6 o.size gw_g49)).size gw_g298)).trans I).size gw_g310)).trans Z).size gw_g324)).trans ae).trans ai) (a6 ((ag.ext (((Y.ext (((U.ext ((H.ext (o.t F) (a6 o.size gw_g49)).trans V) (a6 (H.ext (o.t F) (a6 o.size gw_g49)).size gw_g298)).trans I).trans X) (a6 ((U.ext ((H.ext (o.t F) (a6 o.size gw_g49)).trans V) (a6 (H.ext (o.t F) (a6 o.size gw_g49)).size gw_g298)).trans I).size gw_g310)).trans Z).trans ab) (a6 ((Y.ext (((U.ext ((H.ext (o.t F) (a6 o.size gw_g49)).trans V) (a6 (H.ext (o.t F) (a6 o.size gw_g49)).size gw_g298)).trans I).trans X) (a6 ((U.ext ((H.ext (o.t F) (a6 o.size gw_g49)).trans V) (a6 (H.ext (o.t F) (a6 o.size gw_g49)).size gw_g298)).trans I).size gw_g310)).trans Z).size gw_g324)).trans ae).size gw_g338)).trans ak).trans ao) (a6 ((aj.ext (((ag.ext (((Y.ext (((U.ext ((H.ext (o.t F) (a6 o.size gw_g49)).trans V) (a6 (H.ext (o.t F) (a6 o.size gw_g49)).size gw_g298)).trans I).trans X) (a6 ((U.ext ((H.ext (o.t F) (a6 o.size gw_g49)).trans V) (a6 (H.ext (o.t F) (a6 o.size gw_g49)).size gw_g298)).trans I).size gw_g310)).trans Z).trans ab) (a6 ((Y.ext (((U.ext ((H.ext (o.t F) (a6 o.size gw_g49)).trans V) (a6 (H.ext (o.t F) (a6 o.size gw_g49)).size gw_g298)).trans I).trans X) (a6 ((U.ext ((H.ext (o.t F) (a6 o.size gw_g49)).trans V) (a6 (H.ext (o.t F) (a6 o.size gw_g49)).size gw_g298)).trans I).size gw_g310)).trans Z).size gw_g324)).trans ae).trans ai) (a6 ((ag.ext (((Y.ext (((U.ext ((H.ext (o.t F) (a6 o.size gw_g49)).trans V) (a6 (H.ext (o.t F) (a6 o.size gw_g49)).size gw_g298)).trans I).trans X) (a6 ((U.ext ((H.ext (o.t F) (a6 o.size gw_g49)).trans V) (a6 (H.ext (o.t F) (a6 o.size gw_g49)).size gw_g298)).trans I).size gw_g310)).trans Z).trans ab) (a6 ((Y.ext (((U.ext ((H.ext (o.t F) (a6 o.size gw_g49)).trans V) (a6 (H.ext (o.t F) (a6 o.size gw_g49)).size gw_g298)).trans I).trans X) (a6 ((U.ext ((H.ext (o.t F) (a6 o.size gw_g49)).trans V) (a6 (H.ext (o.t F) (a6 o.size gw_g49)).size gw_g298)).trans I).size gw_g310)).trans Z).size gw_g324)).trans ae).size gw_g338)).trans ak).size gw_g352)).trans az).size
   have gk:eev≤pg.heap.size:=by rw [←gk];exact ((aq.ext ao (a6 aD.size gw_g352)).trans az).size
   refine eL G G (vs:= [AT AX ((4+n1+n2)+80) cX,v4 (((4+n1+n2):Nat):Int)]) (by kernel_rfl) (by decide) (P3 (lo:=lq) (hi:=hi) bf dm hX hC hF (fun j hj=>Cg j (d4 hj (Nat.le_add_right _ 80))) (Nat.le_add_right _ 80) (by omega) (fun j hj=>ge j (d4 hj (Nat.le_add_right _ 80)))) ?_
   rintro _ pb ⟨rfl,br,yr⟩
   refine eM ?_
   have bm:=br.ext bf dm
   replace hX:=br.ownT hX (by decide)
   replace hW:=br.ownT hW (by decide)
   replace hF:=yr
   clear yr
   replace rt:=br.bk rt (by decide)
   replace si:=br.bk si (by decide)
   replace lg:=br.bk lg (by decide)
   replace mi:=br.bk mi (by decide)
   replace io:=br.bk io (by decide)
   replace ko:=br.bk ko (by decide)
   replace ft:=br.bk ft (by decide)
   replace lv:=lv.upT br zt
   have md:hi≤bbx:=ua
   have tr:hi≤bby:=a6 (a6 md ip) pd
   have qv:hi≤bbz:=a6 (a6 tr ij) pj
   have sc:hi≤bbv:=a6 (a6 qv jy) qf
   replace fe:=fe.upT br md
   replace dy:=dy.upT br tr
   replace fh:=fh.upT br qv
   replace eg:=eg.upT br sc
   replace fp:=a6 fp br.size
   replace gk:=a6 gk br.size
   have ll:∀j,j<(4+n1+n2)+80→(tU (4+n1+n2) (dD (4+n1+n2) Ω) j).length≤1048576:=fun j hj=>by rw [oB];exact ge j hj
   have tv:(fJ n1 fun j=>tU (4+n1+n2) (dD (4+n1+n2) Ω) (4+j)).sum≤1048576:=tI (fun j=>oB _ j) hΩL hs1
   have zj:(fJ n2 fun j=>tU (4+n1+n2) (dD (4+n1+n2) Ω) (4+n1+j)).sum≤1048576:=tI (fun j=>oB _ j) (fun j _=>hΩM j) hs2
   obtain⟨z,hz⟩:∃z:Nat→Int,∀j,z j=sg (fI (4+n1+n2) ζ j) (nv (tU (4+n1+n2) (dD (4+n1+n2) Ω) j)):=⟨_,fun _=>rfl⟩
   obtain⟨S2,mf⟩:∃S,d8 k (z 0) (z 1) (z 2) (z 3) ((dB n1).map fun j=>z (4+j)) ((dB n2).map fun j=>z (4+n1+j)) n1 n2=S:=⟨_,rfl⟩
   have Dp:S2.n≤1048576:=by rw [←mf];exact wX ej
   have Cl:S2.n≤524288:=by rw [←mf];exact wW hm1
   have uh:d8 k (sg (fI (4+n1+n2) ζ 0) (nv (tU (4+n1+n2) (dD (4+n1+n2) Ω) 0))) (sg (fI (4+n1+n2) ζ 1) (nv (tU (4+n1+n2) (dD (4+n1+n2) Ω) 1))) (sg (fI (4+n1+n2) ζ 2) (nv (tU (4+n1+n2) (dD (4+n1+n2) Ω) 2))) (sg (fI (4+n1+n2) ζ 3) (nv (tU (4+n1+n2) (dD (4+n1+n2) Ω) 3))) (f9 n1 (fun j=>fI (4+n1+n2) ζ (4+j)) fun j=>tU (4+n1+n2) (dD (4+n1+n2) Ω) (4+j)) (f9 n2 (fun j=>fI (4+n1+n2) ζ (4+n1+j)) fun j=>tU (4+n1+n2) (dD (4+n1+n2) Ω) (4+n1+j)) n1 n2=S2:=by rw [zZ (lo:=4) hz,zZ (lo:=4+n1) hz,←hz 0,←hz 1,←hz 2,←hz 3];exact mf
   refine aA (sr (mv 1 G (pu (v:= v4 (((4+n1+n2):Nat):Int)) G (JC (k:=4+n1+n2) none 0 w.heap.size G G G (by omega) (by decide) fun bg yu ie jt oy=>?_))))
   obtain⟨_,qm⟩:=jt.own
   have Ec:w.heap.size≤bg:=by rw [←ie];exact bm.size
   have Et:pb.heap.size≤bg:=by rw [←ie];exact aD.size
   clear ie jt
   have ch:=bm.trans oy
   refine mv 1 G (aA (aH (sr (mv 1 G (aA (bG ?_))))))
   refine cQ (T:=a7×Nat×List Value)
    (fun⟨wr,i,vs⟩=> [(1,no g1 0),(3,AT lm (4+n1+n2) kx),(4,AT AX ((4+n1+n2)+80) cX),(5,AT AW ((4+n1+n2)+80) cW),(6,no jf 0),(7,no fk 0),(9,no ey 0),(10,no ep 0),(11,no fb 0),(12,no fc 0),(13,AT (some ⟨bg,0,none⟩) (4+n1+n2) (4+n1+n2)),(14,v4 i)])
    (fun⟨wr,i,vs⟩=>wr)
    (fun⟨wr,i,vs⟩=>(Ext w wr)∧(i≤(4+n1+n2))∧(Ext pb wr)∧(Own wr bg 24 2 (some ⟨bg,0,none⟩) (4+n1+n2) (4+n1+n2) vs)∧(Cn wr w.heap.size vs i z))
    (fun⟨wr,i,vs⟩=>(4+n1+n2)-i)
    (⟨yu,0,_⟩:a7×Nat×List Value) ⟨ch,(bJ _),oy,qm,(fun _ h=>absurd h (Nat.not_lt_zero _))⟩ G ⟨rfl,rfl,rfl,rfl,rfl,rfl,rfl,rfl,rfl,rfl,rfl,rfl,Fo⟩ ?_
   rintro⟨wr,i,vs⟩ ⟨bm,ma,hc,tf,vj⟩
   refine cP [(1,no g1 0),(3,AT lm (4+n1+n2) kx),(4,AT AX ((4+n1+n2)+80) cX),(5,AT AW ((4+n1+n2)+80) cW),(6,no jf 0),(7,no fk 0),(9,no ey 0),(10,no ep 0),(11,no fb 0),(12,no fc 0),(13,AT (some ⟨bg,0,none⟩) (4+n1+n2) (4+n1+n2)),(14,v4 i)] wr G ⟨rfl,rfl,rfl,rfl,rfl,rfl,rfl,rfl,rfl,rfl,rfl,rfl,Fo⟩ (aH (aH ?_))
   by_cases dx:i<4+n1+n2
   ·refine aJ (mv 2 G (pu (v:= v4 (((4+n1+n2):Nat):Int)) G (aN G G G true (cG (a:=i) (b:=4+n1+n2) G G) (aA (bB G (b8 (aK (aH (bG (aJ (mv 4 G ?_)))))))))))
    obtain⟨Av,rc,rn⟩:=oF (hX.ext hc) (i:=i) (by omega) (tk i (by omega)).1 (tk i (by omega)).2
    have fi:=AD he (hF.ext hc) (fun j=>oB _ j) (j:=i) (by omega) (ll i (by omega)) (hz i)
    have Eh:ln (z i)≤1048576:=a6 fi.1.ln fi.2
    refine bI G G G d9 a8.size i G Av rc (aP G G (rn _ aD _ _ a8) (cl (vs:= [.agg #[.bool (e i).s,.slice (e i).A (e i).n (e i).c]]) bm (F6 bm.size fi.1 (a6 fi.2 (by decide))) G (by kernel_rfl) fun _ _ De lh ch=>?_))
    obtain⟨_,_,_,_,rfl,Ah⟩:=De
    refine bI G G G d9 a8.size i G ((⟨bg,0,none⟩:aG).add (i*2)) G ?_
    have dc:=(tf.ext lh)
    refine J7 G G G dc (by omega) G G G fun vf qu fd=>?_
    have fy:=fd.ext ch (fun p hp=>by have:=(dc.block p hp).1;omega)
    refine aR (bM (aK (aJ (mv 1 G (aT G G G ((i+1:Nat):Int) (bK (a:=i) (b:=1) G G) (mv 1 G (aR (bX (⟨vf,i+1,_⟩:a7×Nat×List Value) ⟨fy,(by omega),(fd.ext (hc.trans lh) (fun p hp=>a6 Et (dc.block p hp).1)),qu,(((vj.ext lh).updOT dc fd).set (by have:=jE dc;omega) (Ah.updOT dc fd))⟩ (show (4+n1+n2)-(i+1)<(4+n1+n2)-i by omega) G ⟨rfl,rfl,rfl,rfl,rfl,rfl,rfl,rfl,rfl,rfl,rfl,rfl,Fo⟩))))))))
   ·obtain rfl:i=(4+n1+n2):=by omega
    obtain⟨e2,pt,Em⟩:=vj.ce
    have Ed:∀j,j<(4+n1+n2)→ln (z j)≤(Ω j).length:=fun j hj=>by have h:=(AD he hF (fun j=>oB _ j) (j:=j) (by omega) (ll j (by omega)) (hz j)).1.ln;rw [←he] at h;exact a6 h (Nat.le_of_eq (by show (dD _ Ω j).length=_;rw [j0 (h:=hj)]))
    refine aJ (mv 2 G (pu (v:= v4 (((4+n1+n2):Nat):Int)) G (aN G G G false (cL (a:=4+n1+n2) (b:=4+n1+n2) G G) (aA (aV G (cR (cK (cN (cO (aK (sr (lo j7 (si.ext hc) [v4 k,.bool (e 0).s,.slice (e 0).A (e 0).n (e 0).c,.bool (e 1).s,.slice (e 1).A (e 1).n (e 1).c,.bool (e 2).s,.slice (e 2).A (e 2).n (e 2).c,.bool (e 3).s,.slice (e 3).A (e 3).n (e 3).c,AT (dI AX cX 4) n1 (cX-4),AT (dI AX cX (4+n1)) n2 (cX-(4+n1))] G G G (cl (vs:= [.agg #[v4 k,.bool (e 0).s,.slice (e 0).A (e 0).n (e 0).c,.bool (e 1).s,.slice (e 1).A (e 1).n (e 1).c,.bool (e 2).s,.slice (e 2).A (e 2).n (e 2).c,.bool (e 3).s,.slice (e 3).A (e 3).n (e 3).c,AT (dI AX cX 4) n1 (cX-4),AT (dI AX cX (4+n1)) n2 (cX-(4+n1))]]) bm (sF (aS _) (tY he (hX.ext hc) hC (hF.ext hc) (fun j=>oB _ j) G ll tv zj ej fj) uh) G (by kernel_rfl) fun _ qg zf ah ch=>?_)))))))))))))
    obtain⟨ru,rfl,jo⟩:=AnsA6.i zf
    obtain⟨bbu,sx⟩:∃q,wr.heap.size=q:=⟨_,rfl⟩
    obtain⟨eeu,vw⟩:∃q,qg.heap.size=q:=⟨_,rfl⟩
    rw [sx,vw] at jo
    have pp:bbu≤eeu:=by rw [←sx,←vw];exact ah.size
    have qh:eev≤bbu:=by rw [←sx];exact a6 (a6 gk hc.size) aD.size
    refine dW G (z:= .agg #[F0,S0,F0,S0,F0,S0,S0,I0]) (vs:= [F0,S0,F0,S0,F0,S0,S0,I0]) (fun _=>by kernel_rfl) G fun ix _ nb=>?_
    have gw_g753:qg.heap.size≤ix:=by rw [←nb.at_];exact aS _
    have qq:=nb.bk
    have qw:w.heap.size≤ix:=by rw [←nb.at_];exact ch.size
    have Fs:fc<ix:=by rw [←nb.at_];exact ((ft.ext hc).ext ah).lt
    have am:=nb.ext
    clear nb
    have fy:=ch.trans am
    refine so bU qq [.bool ru.s,AT ru.A ru.n ru.c,.bool ru.s',AT ru.A' ru.n' ru.c',.bool ru.s2,AT ru.A2 ru.n2 ru.c2,AT ru.B ru.m ru.d,v4 ru.E] fy qw G G G G fun _ gt an dn=>(aA (aH (aH ?_)))
    refine cU bR 25 [] [Is (.agg #[.bool ru.s,AT ru.A ru.n ru.c,.bool ru.s',AT ru.A' ru.n' ru.c',.bool ru.s2,AT ru.A2 ru.n2 ru.c2,AT ru.B ru.m ru.d,v4 ru.E]),Is (.agg #[v4 k,.bool sa,AT Aa xs.length ca,.bool sb,AT Ab ys.length cb,.bool sd,AT Ad ds.length cd,.bool se,AT Ae es.length ce,AT AL n1 c1,AT AM n2 c2]),Is (AT (some ⟨bg,0,none⟩) (4+n1+n2) (4+n1+n2)),Is (.agg #[v4 k,.bool (e2 0).s,.slice (e2 0).A (e2 0).n (e2 0).c,.bool (e2 1).s,.slice (e2 1).A (e2 1).n (e2 1).c,.bool (e2 2).s,.slice (e2 2).A (e2 2).n (e2 2).c,.bool (e2 3).s,.slice (e2 3).A (e2 3).n (e2 3).c,AT (dI (some ⟨bg,0,none⟩) (4+n1+n2) 4) n1 ((4+n1+n2)-4),AT (dI (some ⟨bg,0,none⟩) (4+n1+n2) (4+n1)) n2 ((4+n1+n2)-(4+n1))]),AnsR6 w.heap.size S2,Is (By),Is (BY),Is (BY),Is (.agg #[.bool rx.s,AT rx.A rx.n rx.c,.bool rx.s',AT rx.A' rx.n' rx.c',.bool rx.s2,AT rx.A2 rx.n2 rx.c2,AT rx.B rx.m rx.d,v4 rx.E]),Is (.agg #[.bool W.s,AT W.A W.n W.c,.bool W.s',AT W.A' W.n' W.c',.bool W.s2,AT W.A2 W.n2 W.c2,AT W.B W.m W.d,v4 W.E]),Is (By),Is (BY),Is (BY),Is (BY),Is (.agg #[.bool ry.s,AT ry.A ry.n ry.c,.bool ry.s',AT ry.A' ry.n' ry.c',.bool ry.s2,AT ry.A2 ry.n2 ry.c2,AT ry.B ry.m ry.d,v4 ry.E]),Is (.agg #[.bool W.s,AT W.A W.n W.c,.bool W.s',AT W.A' W.n' W.c',.bool W.s2,AT W.A2 W.n2 W.c2,AT W.B W.m W.d,v4 W.E]),Is (By),Is (BY),Is (BY),Is (BY),Is (.agg #[.bool rv.s,AT rv.A rv.n rv.c,.bool rv.s',AT rv.A' rv.n' rv.c',.bool rv.s2,AT rv.A2 rv.n2 rv.c2,AT rv.B rv.m rv.d,v4 rv.E]),Is (.agg #[.bool W.s,AT W.A W.n W.c,.bool W.s',AT W.A' W.n' W.c',.bool W.s2,AT W.A2 W.n2 W.c2,AT W.B W.m W.d,v4 W.E]),Is (By),Is (BY),Is (BY)] [[],[],[],[1,2],[3],[0,4],[5],[6],[7],[7],[7,8,9],[7,10],[7,11],[12],[13],[13],[13,14,15],[13,16],[13,17],[18],[19],[19],[19,20,21],[19,22],[19,23]] [[],[],[],[1,2],[1,2,3],[0,1,2,3,4],[0,1,2,3,4,5],[0,1,2,3,4,5,6],[0,1,2,3,4,5,6,7],[0,1,2,3,4,5,6,7],[0,1,2,3,4,5,6,7,8,9],[0,1,2,3,4,5,6,7,8,9,10],[0,1,2,3,4,5,6,7,8,9,10,11],[0,1,2,3,4,5,6,7,8,9,10,11,12],[0,1,2,3,4,5,6,7,8,9,10,11,12,13],[0,1,2,3,4,5,6,7,8,9,10,11,12,13],[0,1,2,3,4,5,6,7,8,9,10,11,12,13,14,15],[0,1,2,3,4,5,6,7,8,9,10,11,12,13,14,15,16],[0,1,2,3,4,5,6,7,8,9,10,11,12,13,14,15,16,17],[0,1,2,3,4,5,6,7,8,9,10,11,12,13,14,15,16,17,18],[0,1,2,3,4,5,6,7,8,9,10,11,12,13,14,15,16,17,18,19],[0,1,2,3,4,5,6,7,8,9,10,11,12,13,14,15,16,17,18,19],[0,1,2,3,4,5,6,7,8,9,10,11,12,13,14,15,16,17,18,19,20,21],[0,1,2,3,4,5,6,7,8,9,10,11,12,13,14,15,16,17,18,19,20,21,22],[0,1,2,3,4,5,6,7,8,9,10,11,12,13,14,15,16,17,18,19,20,21,22,23]] rfl
     (aF G G (aC G G ?_) (aF G G (aC G G ?_) (aF G G (aC G G ?_) (aF G G (aC G G ?_) (aF G G (aC G G ?_) (aF G G (aC G G ?_) (aF G G (aC G G ?_) (aF G G (aC G G ?_) (aF G G (aC G G ?_) (aF G G (aC G G ?_) (aF G G (aC G G ?_) (aF G G (aC G G ?_) (aF G G (aC G G ?_) (aF G G (aC G G ?_) (aF G G (aC G G ?_) (aF G G (aC G G ?_) (aF G G (aC G G ?_) (aF G G (aC G G ?_) (aF G G (aC G G ?_) (aF G G (aC G G ?_) (aF G G (aC G G ?_) (aF G G (aC G G ?_) (aF G G (aC G G ?_) (aF G G (aC G G ?_) (aF G G (aC G G ?_) cE))))))))))))))))))))))))) ?_
    ·exact fun _ Cy=>aB (lo bU (gt.ext Cy) [.bool ru.s,AT ru.A ru.n ru.c,.bool ru.s',AT ru.A' ru.n' ru.c',.bool ru.s2,AT ru.A2 ru.n2 ru.c2,AT ru.B ru.m ru.d,v4 ru.E] G G G (aE G aD G))
    ·exact fun _ vq=>aB (lo j7 ((((rt.ext hc).ext (ah.t am)).vN an).ext vq) [v4 k,.bool sa,AT Aa xs.length ca,.bool sb,AT Ab ys.length cb,.bool sd,AT Ad ds.length cd,.bool se,AT Ae es.length ce,AT AL n1 c1,AT AM n2 c2] G G G (aE G aD G))
    ·exact fun _ _=>aB (mv 1 G (aE G aD G))
    ·intro _ pn
     have bh:=dn.trans pn
     refine dk G G (dk G G (aB (cl (vs:= [.agg #[v4 k,.bool sa,AT Aa xs.length ca,.bool sb,AT Ab ys.length cb,.bool sd,AT Ad ds.length cd,.bool se,AT Ae es.length ce,AT AL n1 c1,AT AM n2 c2],AT (some ⟨bg,0,none⟩) (4+n1+n2) (4+n1+n2)]) bh (EY (tf.ext ((an.ext (ah.t am) (a6 ah.size gw_g753)).trans pn)) pt (by omega) ej fj) G (by kernel_rfl) fun _ _ zy yn ee=>?_)))
     obtain rfl:=zy
     exact aE G yn rfl
    ·intro _ ki
     have bh:=dn.trans ki
     refine dk G G (aB (cl (vs:= [.agg #[v4 k,.bool (e2 0).s,.slice (e2 0).A (e2 0).n (e2 0).c,.bool (e2 1).s,.slice (e2 1).A (e2 1).n (e2 1).c,.bool (e2 2).s,.slice (e2 2).A (e2 2).n (e2 2).c,.bool (e2 3).s,.slice (e2 3).A (e2 3).n (e2 3).c,AT (dI (some ⟨bg,0,none⟩) (4+n1+n2) 4) n1 ((4+n1+n2)-4),AT (dI (some ⟨bg,0,none⟩) (4+n1+n2) (4+n1)) n2 ((4+n1+n2)-(4+n1))]]) bh (yE bh.size (MF (tf.ext ((an.ext (ah.t am) (a6 ah.size gw_g753)).trans ki)) pt (fun j hj=>(Em j hj).ext ((an.ext (ah.t am) (a6 ah.size gw_g753)).trans ki)) Ed G nu (BI hΩL hs1) (BI (fun j _=>hΩM j) hs2) ej fj) mf) G (by kernel_rfl) fun _ _ xg ym ee=>?_))
     obtain⟨_,rfl,sn⟩:=AnsR6.cells xg
     exact aE G ym sn
    ·intro _ jl
     have bh:=dn.trans jl
     refine dk G G (aO G G fun _ _ vt _ vo=>?_)
     obtain⟨bd,rfl,go⟩:=AnsR6.cells vt
     have go:=go.ext vo
     refine aB (cl (vs:= [.agg #[.bool ru.s,AT ru.A ru.n ru.c,.bool ru.s',AT ru.A' ru.n' ru.c',.bool ru.s2,AT ru.A2 ru.n2 ru.c2,AT ru.B ru.m ru.d,v4 ru.E],.agg #[.bool bd.s,AT bd.A bd.n bd.c,.bool bd.s',AT bd.A' bd.n' bd.c',.bool bd.s2,AT bd.A2 bd.n2 bd.c2,AT bd.B bd.m bd.d,v4 bd.E]]) bh (oQ (a6 pp (jo.ext ((an.ext am (a6 aD.size gw_g753)).trans jl)).be) bh.size Dp (jo.ext ((an.ext am (a6 aD.size gw_g753)).trans jl)).toR go) G (by kernel_rfl) fun _ _ uj vp ee=>?_)
     obtain rfl:=uj
     exact aE G vp rfl
    ·exact fun _ _=>dk G G (aB (pu (v:= BY) G (aE G aD G)))
    ·exact fun _ _=>dk G G (aB (mv 1 G (aE G aD G)))
    ·exact fun _ zo=>dk G G (aB (lo bU ((((mi.ext hc).ext (ah.t am)).vN an).ext zo) [.bool rx.s,AT rx.A rx.n rx.c,.bool rx.s',AT rx.A' rx.n' rx.c',.bool rx.s2,AT rx.A2 rx.n2 rx.c2,AT rx.B rx.m rx.d,v4 rx.E] G G G (aE G aD G)))
    ·exact fun _ tx=>dk G G (aB (lo bU ((((lg.ext hc).ext (ah.t am)).vN an).ext tx) [.bool W.s,AT W.A W.n W.c,.bool W.s',AT W.A' W.n' W.c',.bool W.s2,AT W.A2 W.n2 W.c2,AT W.B W.m W.d,v4 W.E] G G G (aE G aD G)))
    ·intro _ ga
     have bh:=dn.trans ga
     refine dk G G (dk G G (dk G G (aB (cl (vs:= [.agg #[.bool rx.s,AT rx.A rx.n rx.c,.bool rx.s',AT rx.A' rx.n' rx.c',.bool rx.s2,AT rx.A2 rx.n2 rx.c2,AT rx.B rx.m rx.d,v4 rx.E],.agg #[.bool W.s,AT W.A W.n W.c,.bool W.s',AT W.A' W.n' W.c',.bool W.s2,AT W.A2 W.n2 W.c2,AT W.B W.m W.d,v4 W.E]]) bh (oQ (a6 ip ((fe.ext hc).ext ((an.ext (ah.t am) (a6 ah.size gw_g753)).trans ga)).be) (a6 (a6 fp hc.size) ((an.ext (ah.t am) (a6 ah.size gw_g753)).trans ga).size) kw ((fe.ext hc).ext ((an.ext (ah.t am) (a6 ah.size gw_g753)).trans ga)).toR ((lv.ext hc).ext ((an.ext (ah.t am) (a6 ah.size gw_g753)).trans ga))) G (by kernel_rfl) fun _ _ ud uf ee=>?_))))
     obtain rfl:=ud
     exact aE G uf rfl
    ·exact fun _ _=>dk G G (dk G G (aB (pu (v:= BY) G (aE G aD G))))
    ·exact fun _ _=>dk G G (dk G G (aB (pu (v:= BY) G (aE G aD G))))
    ·exact fun _ _=>dk G G (aB (mv 1 G (aE G aD G)))
    ·exact fun _ uz=>dk G G (aB (lo bU ((((io.ext hc).ext (ah.t am)).vN an).ext uz) [.bool ry.s,AT ry.A ry.n ry.c,.bool ry.s',AT ry.A' ry.n' ry.c',.bool ry.s2,AT ry.A2 ry.n2 ry.c2,AT ry.B ry.m ry.d,v4 ry.E] G G G (aE G aD G)))
    ·exact fun _ wp=>dk G G (aB (lo bU ((((lg.ext hc).ext (ah.t am)).vN an).ext wp) [.bool W.s,AT W.A W.n W.c,.bool W.s',AT W.A' W.n' W.c',.bool W.s2,AT W.A2 W.n2 W.c2,AT W.B W.m W.d,v4 W.E] G G G (aE G aD G)))
    ·intro _ fx
     have bh:=dn.trans fx
     refine dk G G (dk G G (dk G G (aB (cl (vs:= [.agg #[.bool ry.s,AT ry.A ry.n ry.c,.bool ry.s',AT ry.A' ry.n' ry.c',.bool ry.s2,AT ry.A2 ry.n2 ry.c2,AT ry.B ry.m ry.d,v4 ry.E],.agg #[.bool W.s,AT W.A W.n W.c,.bool W.s',AT W.A' W.n' W.c',.bool W.s2,AT W.A2 W.n2 W.c2,AT W.B W.m W.d,v4 W.E]]) bh (oQ (a6 ij ((dy.ext hc).ext ((an.ext (ah.t am) (a6 ah.size gw_g753)).trans fx)).be) (a6 (a6 fp hc.size) ((an.ext (ah.t am) (a6 ah.size gw_g753)).trans fx).size) kw ((dy.ext hc).ext ((an.ext (ah.t am) (a6 ah.size gw_g753)).trans fx)).toR ((lv.ext hc).ext ((an.ext (ah.t am) (a6 ah.size gw_g753)).trans fx))) G (by kernel_rfl) fun _ _ zz yg ee=>?_))))
     obtain rfl:=zz
     exact aE G yg rfl
    ·exact fun _ _=>dk G G (dk G G (aB (pu (v:= BY) G (aE G aD G))))
    ·exact fun _ _=>dk G G (dk G G (aB (pu (v:= BY) G (aE G aD G))))
    ·exact fun _ _=>dk G G (aB (mv 1 G (aE G aD G)))
    ·exact fun _ xl=>dk G G (aB (lo bU ((((ft.ext hc).ext (ah.t am)).vN an).ext xl) [.bool rv.s,AT rv.A rv.n rv.c,.bool rv.s',AT rv.A' rv.n' rv.c',.bool rv.s2,AT rv.A2 rv.n2 rv.c2,AT rv.B rv.m rv.d,v4 rv.E] G G G (aE G aD G)))
    ·exact fun _ Bi=>dk G G (aB (lo bU ((((lg.ext hc).ext (ah.t am)).vN an).ext Bi) [.bool W.s,AT W.A W.n W.c,.bool W.s',AT W.A' W.n' W.c',.bool W.s2,AT W.A2 W.n2 W.c2,AT W.B W.m W.d,v4 W.E] G G G (aE G aD G)))
    ·intro _ fv
     have bh:=dn.trans fv
     refine dk G G (dk G G (dk G G (aB (cl (vs:= [.agg #[.bool rv.s,AT rv.A rv.n rv.c,.bool rv.s',AT rv.A' rv.n' rv.c',.bool rv.s2,AT rv.A2 rv.n2 rv.c2,AT rv.B rv.m rv.d,v4 rv.E],.agg #[.bool W.s,AT W.A W.n W.c,.bool W.s',AT W.A' W.n' W.c',.bool W.s2,AT W.A2 W.n2 W.c2,AT W.B W.m W.d,v4 W.E]]) bh (oQ (a6 jb ((eg.ext hc).ext ((an.ext (ah.t am) (a6 ah.size gw_g753)).trans fv)).be) (a6 (a6 fp hc.size) ((an.ext (ah.t am) (a6 ah.size gw_g753)).trans fv).size) kw ((eg.ext hc).ext ((an.ext (ah.t am) (a6 ah.size gw_g753)).trans fv)).toR ((lv.ext hc).ext ((an.ext (ah.t am) (a6 ah.size gw_g753)).trans fv))) G (by kernel_rfl) fun _ _ vi yh ee=>?_))))
     obtain rfl:=vi
     exact aE G yh rfl
    ·exact fun _ _=>dk G G (dk G G (aB (pu (v:= BY) G (aE G aD G))))
    ·exact fun _ _=>dk G G (dk G G (aB (pu (v:= BY) G (aE G aD G))))
    ·intro ba au
     have bh:=dn.trans au
     refine dk G G (dk G G (dk G G (dk G G (aO G G fun _ _ rp _ re=>?_))))
     obtain⟨_,rfl,ir⟩:=AnsR6.cells rp
     have ir:=ir.ext re
     refine dk G G (dk G G (dk G G (dk G G (dk G G (dk G G (dk G G (dk G G (dk G G (dk G G (dk G G (dk G G (dk G G (dk G G ?_)))))))))))))
     refine dk G G (dk G G (dk G G (dk G G (dk G G (dk G G (aB (aR (cF (aK (aV G (b8 (aK (aH ?_)))))))))))))
     have lj:=bh
     obtain⟨Xx,Ux,sgx,owx,xlx,xax,xbx,xnx⟩:=((fe.ext hc).ext ((an.ext (ah.t am) (a6 ah.size gw_g753)).trans au)).book (lb:=w.heap.size) (a6 dm (a6 ef md))
     have rmx:rx.m≤524288:=by rw [((fe.ext hc).ext ((an.ext (ah.t am) (a6 ah.size gw_g753)).trans au)).2.1];exact lp
     obtain⟨Xy,Uy,sgy,owy,xly,xay,xby,xny⟩:=((dy.ext hc).ext ((an.ext (ah.t am) (a6 ah.size gw_g753)).trans au)).book (lb:=w.heap.size) (a6 dm (a6 ef tr))
     have rmy:ry.m≤524288:=by rw [((dy.ext hc).ext ((an.ext (ah.t am) (a6 ah.size gw_g753)).trans au)).2.1];exact lp
     obtain⟨Xz,Uz,sgz,owz,xlz,xaz,xbz,xnz⟩:=((fh.ext hc).ext ((an.ext (ah.t am) (a6 ah.size gw_g753)).trans au)).book (lb:=w.heap.size) (a6 dm (a6 ef qv))
     have rmz:rz.m≤524288:=by rw [((fh.ext hc).ext ((an.ext (ah.t am) (a6 ah.size gw_g753)).trans au)).2.1];exact wk
     obtain⟨Xv,Uv,sgv,owv,xlv,xav,xbv,xnv⟩:=((eg.ext hc).ext ((an.ext (ah.t am) (a6 ah.size gw_g753)).trans au)).book (lb:=w.heap.size) (a6 dm (a6 ef sc))
     have rmv:rv.m≤524288:=by rw [((eg.ext hc).ext ((an.ext (ah.t am) (a6 ah.size gw_g753)).trans au)).2.1];exact lp
     obtain⟨Xu,Uu,sgu,owu,xlu,xau,xbu,xnu⟩:=(jo.ext ((an.ext am (a6 aD.size gw_g753)).trans au)).book (lb:=w.heap.size) (a6 dm (a6 (a6 (a6 ef sc) jb) qh))
     have rmu:ru.m≤524288:=by rw [(jo.ext ((an.ext am (a6 aD.size gw_g753)).trans au)).2.1];exact Cl
     obtain⟨rr,fo⟩:∃q,f5 rx ry rz rv ru=q:=⟨_,rfl⟩
     obtain⟨XS,mm⟩:∃q,f5 Xx Xy Xz Xv Xu=q:=⟨_,rfl⟩
     obtain⟨US,Ct⟩:∃q,f5 Ux Uy Uz Uv Uu=q:=⟨_,rfl⟩
     obtain⟨bs,ng⟩:∃q,f5 bbx bby bbz bbv bbu=q:=⟨_,rfl⟩
     obtain⟨qs,mh⟩:∃q,f5 eex eey eez eev eeu=q:=⟨_,rfl⟩
     obtain⟨LS,mn⟩:∃L:Nat→List Lst,L=fun i=>(rr i).ls (XS i):=⟨_,rfl⟩
     obtain⟨MS,mo⟩:∃L:Nat→Lst,L=fun i=>⟨(rr i).B,(rr i).m,(rr i).d⟩:=⟨_,rfl⟩
     have Dr:∀i,i<5→Sg ba w.heap.size (fun g=>bs i≤g∧g<qs i) (LS i):=by subst mn fo mm ng mh;exact mI sgx sgy sgz sgv sgu
     have Ch:∀i,i<5→Own ba w.heap.size 24 2 (rr i).B (rr i).m (rr i).d (US i):=by subst fo Ct;exact mI owx owy owz owv owu
     have uc:∀i,i<5→(XS i).length=(rr i).m:=by subst fo mm;exact mI xlx xly xlz xlv xlu
     have Fl:∀i,i<5→∀j,j<(rr i).m→(US i)[j*2+1]?=some ((XS i).getD j Lst.z).v:=by subst fo mm Ct;exact mI xax xay xaz xav xau
     have Ff:∀i,i<5→∀p,(rr i).B=some p→bs i≤p.block∧p.block<qs i:=by subst fo ng mh;exact mI xbx xby xbz xbv xbu
     have Ep:∀i,i<5→∀x,x∈LS i→x.n≤1099511620000:=by subst mn fo mm;exact mI xnx xny xnz xnv xnu
     have qr:∀i,i<5→(rr i).m≤524288:=by subst fo;exact mI rmx rmy rmz rmv rmu
     have kt:∀i j,i<j→j<5→qs i≤bs j:=by subst ng mh;exact L0 (mI ip ij jy jb pp) (fun i hi=>mI (p:=fun i=>i+1<5→f5 eex eey eez eev eeu i≤f5 bbx bby bbz bbv bbu (i+1)) (fun _=>pd) (fun _=>pj) (fun _=>qf) (fun _=>a6 (aS _) qh) (fun h=>absurd h (by decide)) i (by omega) hi)
     have Aj:∀i,i<5→(LS i).length=3+(rr i).m:=fun i hi=>by rw [mn,AR6.ls_len,uc i hi]
     have ez:∀n,n≤5→(f8 LS n).length≤2621455:=fun n hn=>a6 (H5 (n:=n) (M:=524291) (fun i hi=>by have h1:=Aj i (by omega);have h2:=qr i (by omega);omega)) (a6 (Nat.mul_le_mul_right _ hn) (by decide))
     have Ej:=((hW.ext hc).ext ((an.ext (ah.t am) (a6 ah.size gw_g753)).trans au))
     have Dt:=((hF.ext hc).ext ((an.ext (ah.t am) (a6 ah.size gw_g753)).trans au))
     refine aJ (pu (v:= .agg #[S0,S0,S0]) G (dW G (z:= .agg #[S0,S0,S0]) (vs:= [S0,S0,S0]) (fun _=>by kernel_rfl) G fun aw _ nb=>?_))
     have gw_g1143:ba.heap.size≤aw:=by rw [←nb.at_];exact aS _
     have geW_g1143:ba.heap.size≤aw:=by rw [←nb.at_];exact (aS _)
     have ml:=nb.bk
     have nk:w.heap.size≤aw:=by rw [←nb.at_];exact bh.size
     have Dn:ix<aw:=by rw [←nb.at_];exact (gt.ext au).lt
     have bp:=nb.ext
     clear nb
     have ee:=bh.trans bp
     refine so T7 ml [S0,S0,S0] ee nk G G G G fun qn ik bv jh=>(aA (aH (sr (lo bU (((((mi.ext hc).ext (ah.t am)).vN an).ext (au.t bp)).vN bv) [.bool rx.s,AT rx.A rx.n rx.c,.bool rx.s',AT rx.A' rx.n' rx.c',.bool rx.s2,AT rx.A2 rx.n2 rx.c2,AT rx.B rx.m rx.d,v4 rx.E] G G G (lo bU (((((io.ext hc).ext (ah.t am)).vN an).ext (au.t bp)).vN bv) [.bool ry.s,AT ry.A ry.n ry.c,.bool ry.s',AT ry.A' ry.n' ry.c',.bool ry.s2,AT ry.A2 ry.n2 ry.c2,AT ry.B ry.m ry.d,v4 ry.E] G G G (lo bU (((((ko.ext hc).ext (ah.t am)).vN an).ext (au.t bp)).vN bv) [.bool rz.s,AT rz.A rz.n rz.c,.bool rz.s',AT rz.A' rz.n' rz.c',.bool rz.s2,AT rz.A2 rz.n2 rz.c2,AT rz.B rz.m rz.d,v4 rz.E] G G G (lo bU (((((ft.ext hc).ext (ah.t am)).vN an).ext (au.t bp)).vN bv) [.bool rv.s,AT rv.A rv.n rv.c,.bool rv.s',AT rv.A' rv.n' rv.c',.bool rv.s2,AT rv.A2 rv.n2 rv.c2,AT rv.B rv.m rv.d,v4 rv.E] G G G (lo bU ((gt.ext (au.t bp)).vN bv) [.bool ru.s,AT ru.A ru.n ru.c,.bool ru.s',AT ru.A' ru.n' ru.c',.bool ru.s2,AT ru.A2 ru.n2 ru.c2,AT ru.B ru.m ru.d,v4 ru.E] G G G (fA G G (k:=5) (e:=45) [.bool rx.s,AT rx.A rx.n rx.c,.bool rx.s',AT rx.A' rx.n' rx.c',.bool rx.s2,AT rx.A2 rx.n2 rx.c2,AT rx.B rx.m rx.d,v4 rx.E,.bool ry.s,AT ry.A ry.n ry.c,.bool ry.s',AT ry.A' ry.n' ry.c',.bool ry.s2,AT ry.A2 ry.n2 ry.c2,AT ry.B ry.m ry.d,v4 ry.E,.bool rz.s,AT rz.A rz.n rz.c,.bool rz.s',AT rz.A' rz.n' rz.c',.bool rz.s2,AT rz.A2 rz.n2 rz.c2,AT rz.B rz.m rz.d,v4 rz.E,.bool rv.s,AT rv.A rv.n rv.c,.bool rv.s',AT rv.A' rv.n' rv.c',.bool rv.s2,AT rv.A2 rv.n2 rv.c2,AT rv.B rv.m rv.d,v4 rv.E,.bool ru.s,AT ru.A ru.n ru.c,.bool ru.s',AT ru.A' ru.n' ru.c',.bool ru.s2,AT ru.A2 ru.n2 ru.c2,AT ru.B ru.m ru.d,v4 ru.E] (fun _=>by kernel_rfl) fun bi kc nb=>?_)))))))))
     have gw_g1154:qn.heap.size≤bi:=by rw [←nb.at_];exact aS _
     have geW_g1154:ba.heap.size≤bi:=by rw [←nb.at_];exact (bv.ext bp geW_g1143).size
     have oe:=nb.bk
     have Dk:w.heap.size≤bi:=by rw [←nb.at_];exact jh.size
     have Dy:aw<bi:=by rw [←nb.at_];exact ik.lt
     have gi:=nb.ext
     clear nb
     have my:=jh.trans gi
     have nw:Bk kc bi 45 (rx.cells++ry.cells++rz.cells++rv.cells++ru.cells):=oe
     refine pu (v:= v4 5) G (mv 1 G (aA (bG ?_)))
     refine cQ (T:=a7×Nat×Option aG×Nat×Option aG×Nat)
      (fun⟨wB,i,WA,wc,IA,ic⟩=> [(5,AT AW ((4+n1+n2)+80) cW),(16,no aw 0),(146,AT (some ⟨bi,0,none⟩) 5 5),(147,v4 5),(148,v4 i)])
      (fun⟨wB,i,WA,wc,IA,ic⟩=>wB)
      (fun⟨wB,i,WA,wc,IA,ic⟩=>(Ext w wB)∧(i≤5)∧(Ext ba wB)∧(Bk wB bi 45 (rx.cells++ry.cells++rz.cells++rv.cells++ru.cells))∧(Bk wB aw 54 [.slice WA (f8 LS i).length wc,AT IA i ic,S0])∧(Own wB ba.heap.size 22 1 WA (f8 LS i).length wc ((f8 LS i).map Lst.v))∧(Own wB ba.heap.size 26 1 IA i ic (((dB i).map MS).map Lst.v)))
      (fun⟨wB,i,WA,wc,IA,ic⟩=>5-i)
      (⟨kc,0,none,0,none,0⟩:a7×Nat×Option aG×Nat×Option aG×Nat) ⟨my,(bJ _),((bv.ext bp geW_g1143).trans gi),nw,(ik.ext gi),(Own.nil _ _ _ _),(Own.nil _ _ _ _)⟩ G ⟨rfl,rfl,rfl,rfl,rfl,Fo⟩ ?_
     rintro⟨wB,i,WA,wc,IA,ic⟩ ⟨bm,ma,hc,ta,mb,je,ky⟩
     refine cP [(5,AT AW ((4+n1+n2)+80) cW),(16,no aw 0),(146,AT (some ⟨bi,0,none⟩) 5 5),(147,v4 5),(148,v4 i)] wB G ⟨rfl,rfl,rfl,rfl,rfl,Fo⟩ (aH ?_)
     by_cases dx:i<5
     ·refine aJ (aN G G G true (cG (a:=i) (b:=5) G G) (aA (aH (bB G (b8 (aK (aH (bG (sr ?_)))))))))
      obtain⟨ti,oa,iw⟩:=SZ ta dx
      rw [fo] at iw
      refine bI G G G Tryz.underlying55 bU.size i G ti oa (aP G G (iw _ aD) (dW G (z:= .agg #[F0,S0,F0,S0,F0,S0,S0,I0]) (vs:= [F0,S0,F0,S0,F0,S0,S0,I0]) (fun _=>by kernel_rfl) G fun bt _ nb=>?_))
      have geW_g1162:ba.heap.size≤bt:=by rw [←nb.at_];exact hc.size
      have gw_g1162:wB.heap.size≤bt:=by rw [←nb.at_];exact aS _
      have du:=nb.bk
      have mp:w.heap.size≤bt:=by rw [←nb.at_];exact bm.size
      have Dm:bi<bt:=by rw [←nb.at_];exact ta.lt
      have bz:=nb.ext
      clear nb
      have ch:=bm.trans bz
      refine so bU du [.bool (rr i).s,.slice (rr i).A (rr i).n (rr i).c,.bool (rr i).s',.slice (rr i).A' (rr i).n' (rr i).c',.bool (rr i).s2,.slice (rr i).A2 (rr i).n2 (rr i).c2,.slice (rr i).B (rr i).m (rr i).d,v4 (rr i).E] ch mp G G G G fun _ iq cj fy=>(aA (sr (pf bt 0 G (lo a8 iq [.bool (rr i).s,.slice (rr i).A (rr i).n (rr i).c] G G G (eL G G (vs:= [no aw 0,.agg #[.bool (rr i).s,.slice (rr i).A (rr i).n (rr i).c]]) (by kernel_rfl) (by decide) (yK (n:=(f8 LS i).length) ((mb.ext bz).updTT du (by decide) cj) ((je.ext bz).updT du (by decide) cj) (cj.ext (hc.trans bz) geW_g1162).size geW_g1143 (by have:=ez i ma;omega)) ?_)))))
      rintro _ _ ⟨rfl,dr,_,_,mu,ob⟩
      refine eM ?_
      have mx:=dr.own ((ky.ext bz).updT du (by decide) cj) (by decide) (by decide)
      have hc:=dr.k.ext (cj.ext (hc.trans bz) geW_g1162) (aS _)
      have dn:=lj.trans hc
      have nt:=dr.k.bk ((ta.ext bz).vN cj) (by decide) (by decide) (by decide)
      have jd:=dr.k.bk iq (by decide) (by decide) (by decide)
      refine aA (sr (pf bt 2 G (lo a8 jd [.bool (rr i).s',.slice (rr i).A' (rr i).n' (rr i).c'] G G G (eL G G (vs:= [no aw 0,.agg #[.bool (rr i).s',.slice (rr i).A' (rr i).n' (rr i).c']]) (by kernel_rfl) (by decide) (yK (n:=(f8 LS i).length+1) mu ob hc.size geW_g1143 (by have:=ez i ma;omega)) ?_))))
      rintro _ _ ⟨rfl,dt,_,_,on,od⟩
      refine eM ?_
      have om:=dt.own mx (by decide) (by decide)
      have hc:=dt.k.ext hc (aS _)
      have bh:=lj.trans hc
      have mt:=dt.k.bk nt (by decide) (by decide) (by decide)
      have ja:=dt.k.bk jd (by decide) (by decide) (by decide)
      refine aA (sr (pf bt 4 G (lo a8 ja [.bool (rr i).s2,.slice (rr i).A2 (rr i).n2 (rr i).c2] G G G (eL G G (vs:= [no aw 0,.agg #[.bool (rr i).s2,.slice (rr i).A2 (rr i).n2 (rr i).c2]]) (by kernel_rfl) (by decide) (yK (n:=(f8 LS i).length+1+1) on od hc.size geW_g1143 (by have:=ez i ma;omega)) ?_))))
      rintro _ _ ⟨rfl,dv,_,_,nl,nh⟩
      refine eM ?_
      have mw:=dv.own om (by decide) (by decide)
      have hc:=dv.k.ext hc (aS _)
      have ee:=lj.trans hc
      have mr:=dv.k.bk mt (by decide) (by decide) (by decide)
      have il:=dv.k.bk ja (by decide) (by decide) (by decide)
      refine aA (aJ (pf bt 6 G (aP G G (bA (fun _=>by kernel_rfl) il G) (eL G G (vs:= [no aw 0,AT ((rr i).B) ((rr i).m) ((rr i).d)]) (by kernel_rfl) (by decide) (QZ (n:=(f8 LS i).length+1+1+1) (k:=i) (ms:=(dB i).map MS) (xs:=XS i) nl nh mw hc.size geW_g1143 ((Ch i dx).ext hc) (uc i dx) (Fl i dx) (by have:=ez i ma;have:=qr i dx;omega) (by omega)) ?_))))
      rintro _ sq ⟨rfl,fg,_,_,_,_,nz,mz,mg⟩
      refine eM ?_
      have hc:=fg.ext hc (aS _)
      have jh:=lj.trans hc
      have oi:=fg.bk mr (by decide) (by decide) (by decide)
      have Dj:=fg.bk il (by decide) (by decide) (by decide)
      refine aR (bM (aK (aJ (aT G G G ((i+1:Nat):Int) (bK (a:=i) (b:=1) G G) (mv 1 G (aR ?_))))))
      have qe:(f8 LS (i+1)).length=(f8 LS i).length+1+1+1+(rr i).m:=by rw [f8,fH,Aj i dx];omega
      have Eb:(((f8 LS i++ [⟨(rr i).A,(rr i).n,(rr i).c⟩])++ [⟨(rr i).A',(rr i).n',(rr i).c'⟩])++ [⟨(rr i).A2,(rr i).n2,(rr i).c2⟩])++XS i=f8 LS (i+1):=by rw [TC,f8,mn];rfl
      have Eo:(dB i).map MS++ [⟨(rr i).B,(rr i).m,(rr i).d⟩]=(dB (i+1)).map MS:=by rw [LZ,mo]
      refine bX (⟨sq,i+1,_,_,_,_⟩:a7×Nat×Option aG×Nat×Option aG×Nat) ⟨jh,(by omega),hc,oi,(by rw [qe];exact nz),(by rw [qe,←Eb];exact mz),(by rw [←Eo];exact mg)⟩ (show 5-(i+1)<5-i by omega) G ⟨rfl,rfl,rfl,rfl,rfl,Fo⟩
     ·obtain rfl:i=5:=by omega
      refine aJ (aN G G G false (by decide) (aA (aH (aV G (cR (cK (cN (cO (aK (aH (sr (mv 1 G (aR ?_)))))))))))))
      refine aK (bG ?_)
      refine cQ (T:=a7×Nat×Option aG×Nat)
       (fun⟨wB,j,WA,wc⟩=> [(5,AT AW ((4+n1+n2)+80) cW),(16,no aw 0),(19,v4 j)])
       (fun⟨wB,j,WA,wc⟩=>wB)
       (fun⟨wB,j,WA,wc⟩=>(Ext w wB)∧(j≤((4+n1+n2)+80))∧(Ext ba wB)∧(Bk wB aw 54 [AT WA ((f8 LS 5).length+j) wc,AT IA 5 ic,S0])∧(Own wB ba.heap.size 22 1 WA ((f8 LS 5).length+j) wc ((f8 LS 5++(kN ((4+n1+n2)+80) γ (dD (4+n1+n2) Ω)).take j).map Lst.v))∧(Own wB ba.heap.size 26 1 IA 5 ic (((dB 5).map MS).map Lst.v)))
       (fun⟨wB,j,WA,wc⟩=>((4+n1+n2)+80)-j)
       (⟨wB,0,_,_⟩:a7×Nat×Option aG×Nat) ⟨bm,(bJ _),hc,(by rw [eI];exact mb),(by rw [eI,List.take_zero,List.append_nil];exact je),ky⟩ G ⟨rfl,rfl,rfl,Fo⟩ ?_
      rintro⟨wB,j,WA,wc⟩ ⟨bm,_,hc,mb,je,ky⟩
      refine cP [(5,AT AW ((4+n1+n2)+80) cW),(16,no aw 0),(19,v4 j)] wB G ⟨rfl,rfl,rfl,Fo⟩ (aH (aH ?_))
      by_cases dx:j<(4+n1+n2)+80
      ·refine aJ (mv 2 G (pu (v:= v4 ((((4+n1+n2)+80):Nat):Int)) G (aN G G G true (cG (a:=j) (b:=(4+n1+n2)+80) G G) (aA (bB G (b8 (aK (aH (bG (aJ (mv 2 G ?_)))))))))))
       obtain⟨tq,np,ny⟩:=xK (Ej.ext hc) (i:=j) (hD j dx)
       refine bI G G G jT lL j G tq np (aP G G (dC oX (aD.cell ny)) (eL G G (vs:= [no aw 0,AT (some ⟨γ j,0,none⟩) ((dD (4+n1+n2) Ω j).length+80) ((dD (4+n1+n2) Ω j).length+80)]) (by kernel_rfl) (by decide) (QY (n:=((f8 LS 5).length+j)) mb je hc.size geW_g1143 (by have:=ez 5 (aS 5);omega)) ?_))
       rintro _ qo ⟨rfl,iy,_,_,mj,nj⟩
       refine eM ?_
       have ni:=iy.own ky (by decide) (by decide)
       have hc:=iy.k.ext hc (aS _)
       have ch:=lj.trans hc
       refine aR (bM (aK (aJ (mv 1 G (aT G G G ((j+1:Nat):Int) (bK (a:=j) (b:=1) G G) (mv 1 G (aR (bX (⟨qo,j+1,_,_⟩:a7×Nat×Option aG×Nat) ⟨ch,(by omega),hc,mj,(by rw [←CC _ _ (by rw [rW];exact dx),rX dx];exact nj),ni⟩ (show ((4+n1+n2)+80)-(j+1)<((4+n1+n2)+80)-j by omega) G ⟨rfl,rfl,rfl,Fo⟩))))))))
      ·obtain rfl:j=(4+n1+n2)+80:=by omega
       refine aJ (mv 2 G (pu (v:= v4 ((((4+n1+n2)+80):Nat):Int)) G (aN G G G false (cL (a:=(4+n1+n2)+80) (b:=(4+n1+n2)+80) G G) (aA (aV G (cR (cK (cN (cO (aK (sr ?_)))))))))))
       have xf:(kN ((4+n1+n2)+80) γ (dD (4+n1+n2) Ω)).length=((4+n1+n2)+80):=rW _ _ _
       rw [List.take_of_length_le (by rw [xf];exact aS _)] at je
       have pr:(f8 LS 5++kN ((4+n1+n2)+80) γ (dD (4+n1+n2) Ω)).length=(f8 LS 5).length+((4+n1+n2)+80):=by rw [fH,xf]
       have Ey:((dB 5).map MS).length=5:=rfl
       have xm:=mb
       have yt:=je
       rw [←pr] at xm yt
       have Gb:=ez 5 (aS 5)
       have qt:=E6 (ls:=f8 LS 5++kN ((4+n1+n2)+80) γ (dD (4+n1+n2) Ω)) (M:=1099511620000) (fun x hx=>(List.mem_append.1 hx).elim (fun h=>H6 (Q:=fun x=>x.n≤1099511620000) Ep x h) (fun h=>NR (fun j hj=>a6 (Nat.add_le_add_right (ge j hj) 80) (by decide)) x h))
       have Ei:=E6 (ls:=(dB 5).map MS) (M:=1099511620000) (fun x hx=>by
        obtain⟨i,hi,rfl⟩:=List.mem_map.1 hx
        rw [mo]
        exact a6 (qr i (List.mem_range.1 hi)) (by decide))
       have sgR:=Sg.famR (lb:=w.heap.size) (P:=fun g=>lq≤g∧g<hi) Dt (fun j=>oB _ j) dm ge Cg
       have Ds:∀i,i<5→hi≤bs i:=by
        intro i gg
        rcases Nat.eq_zero_or_pos i with h | h
        ·subst h;subst ng;exact md
        ·have h1:=kt 0 i h gg;have h2:hi≤qs 0:=by subst mh;exact a6 md ip
         omega
       have sgA:=(Sg.acc Dr kt).app sgR (by rintro g ⟨i,gg,h1,_⟩ ⟨_,h2⟩;have:=Ds i gg;omega)
       have Ee:Ai1 ba w.heap.size ((dB 5).map MS) 0 0:=T6 (us:=US) (bs:=bs) (es:=qs) (fun i gg=>by rw [mo];exact Ch i gg) (fun i gg=>by rw [mo];exact Ff i gg) kt
       refine eL G G (vs:= [no aw 0]) (by kernel_rfl) (by decide) (R0 (ls:=f8 LS 5++kN ((4+n1+n2)+80) γ (dD (4+n1+n2) Ω)) (ms:=(dB 5).map MS) (lb:=w.heap.size) xm yt ky (sgA.al.ext hc) (Ee.ext hc) bm.size (by rw [pr];omega) qt (bq G) Ei) ?_
       rintro _ _ ⟨rfl,oc⟩
       refine eM ?_
       have Do:=oc w bm (aS _)
       have bm:=Do
       refine mv 1 G (aA (bD (bC [By] G ⟨rfl,Fo⟩ ?_)))
       exact⟨_,rfl,rfl,bm⟩
theorem E7 {x:Nat}(h:x≤18446744073709551615):(wd x).length≤1:=jY (by rw [cI,Nat.pow_one];omega)
theorem MI (h1: -9223372036854775808≤n)(h:n<0):IntKind.u64.wrap (IntKind.i64.wrap (0-n))=((Int.natAbs n:Nat):Int):=by
 by_cases f:n= -9223372036854775808
 ·subst f;decide
 ·rw [IntWalk.i64_in _ ⟨by omega,by omega⟩,IntWalk.u64_in _ ⟨by omega,by omega⟩];omega
theorem MH (h2:n≤9223372036854775807)(h:¬n<0):IntKind.u64.wrap n=((Int.natAbs n:Nat):Int):=by
 rw [IntWalk.u64_in _ ⟨by omega,by omega⟩];omega
theorem PM (hb:b≤w.heap.size)(h1: -9223372036854775808≤n)(h2:n≤9223372036854775807):aQ aM 5 #[v4 n] w (Gv w (ZR b (n))):=by
 refine Calls.mono (R:=Gv w (ZR w.heap.size (n))) ?_ (Gv.imp (ZR.imp hb))
 refine bP Tryz.func5 G (n:=14) G (bq G) (args:= [v4 n]) (bH [(0,v4 n)] ⟨rfl,Fo⟩ (sr (al [F0,S0] (Ext.refl w) (fun _=>by kernel_rfl) G fun _ _ Y ae _ h=>(aA (aH (aH ?_))))))
 by_cases I:n<0
 ·refine aJ (mv 1 G (aN G G G true (uF I) (aA (bB G (sr (mv 1 G (pu (v:= v4 (IntKind.i64.wrap (0-n))) G (kS G G (v:= AI (IntKind.u64.wrap (IntKind.i64.wrap (0-n)))) (v':= AI (((Int.natAbs n):Nat):Int)) (by rw [MI h1 I]) (fA G G (k:=1) (e:=36) [AI (((Int.natAbs n):Nat):Int)] (fun _=>by kernel_rfl) fun g6 _ aa=>?_)))))))))
  have o9:=O1.mk_ (x:=(Int.natAbs n)) (b:=w.heap.size) aa h.size
  have Z:=aa.ext
  have f:=h.trans Z
  have az:ln (sg true (Int.natAbs n))≤1:=by rw [iP];exact (E7 (show Int.natAbs n≤18446744073709551615 by omega))
  refine cl (vs:= [By,AT (some ⟨g6,0,none⟩) 1 1]) f (jK f.size (CY o9 (show Int.natAbs n≤18446744073709551615 by omega)) (by decide)) G (by kernel_rfl) fun _ _ ai av U=>?_
  obtain⟨L,E,F,H,rfl,aq⟩:=ai
  have o:=(Y.ext (Z.t av))
  refine so a8 o (O L E F H) U ae G G G G fun _ ab au X=>(aA (bD (cT (bC [J L E F H] G ⟨⟨_,rfl,aW a8 ab (O L E F H) G (bq G) rfl⟩,Fo⟩ ?_))))
  exact⟨_,rfl,⟨_,_,_,_,rfl,((aq.updT o au)).cast (by rw [rP];omega)⟩,X⟩
 ·refine aJ (mv 1 G (aN G G G false (uG) (aA (aV G (b8 (aK (sr (mv 1 G (kS G G (v:= AI (IntKind.u64.wrap n)) (v':= AI (((Int.natAbs n):Nat):Int)) (by rw [MH h2 I]) (fA G G (k:=1) (e:=36) [AI (((Int.natAbs n):Nat):Int)] (fun _=>by kernel_rfl) fun aj _ p=>?_))))))))))
  have am:=O1.mk_ (x:=(Int.natAbs n)) (b:=w.heap.size) p h.size
  have ag:=p.ext
  have f:=h.trans ag
  have ba:ln (sg false (Int.natAbs n))≤1:=by rw [iP];exact (E7 (show Int.natAbs n≤18446744073709551615 by omega))
  refine cl (vs:= [F0,AT (some ⟨aj,0,none⟩) 1 1]) f (jK f.size (CY am (show Int.natAbs n≤18446744073709551615 by omega)) (by decide)) G (by kernel_rfl) fun _ _ an ak U=>?_
  obtain⟨M,V,D,W,rfl,ao⟩:=an
  have q:=(Y.ext (ag.t ak))
  refine so a8 q (O M V D W) U ae G G G G fun _ ah ar X=>(aA (bD (bC [J M V D W] G ⟨⟨_,rfl,aW a8 ah (O M V D W) G (bq G) rfl⟩,Fo⟩ ?_)))
  exact⟨_,rfl,⟨_,_,_,_,rfl,((ao.updT q ar)).cast (by rw [mF];omega)⟩,X⟩
theorem BH:∀{l:List Nat}{K:Nat},(∀i,l.getD i 0≤K)→l.sum≤l.length*K
 | [],_,_=>bJ _
 | a::l,K,h=>by
  have h0:a≤K:=h 0
  have f:=BH (l:=l) (K:=K) fun i=>h (i+1)
  rw [List.sum_cons,List.length_cons,Nat.succ_mul];omega
theorem Zl.zwS {n:Nat}(h:Zl w A n cap zs ms):∃σ ω,Zw w A n cap σ ω∧fJ n ω=ms:=by
 obtain⟨σ,ω,o,_,p⟩:=h.zw
 refine⟨σ,ω,o,List.ext_getElem? fun i=>?_⟩
 unfold fJ
 by_cases hi:i<n
 ·have f:=p i hi
  rw [List.getD_eq_getElem?_getD,cA (by rw [h.mlen];exact hi)] at f
  rw [List.getElem?_map,List.getElem?_range hi,cA (by rw [h.mlen];exact hi),Option.map_some,f,Option.getD_some]
 ·rw [gM (by rw [List.length_map,List.length_range];omega),gM (by rw [h.mlen];omega)]
theorem Q6 {z u:Int}{nb ne:Nat}(hx:Zi w sa Aa na ca x)(la:na≤1048576)(hy:Zi w sb Ab nb cb y)(lb:nb≤1048576)(hz:Zi w sd Ad nd cd z)(ld:nd≤1048576)(hu:Zi w se Ae ne ce u)(le:ne≤1048576)(hl1:Zl w AL n1 c1 zs ms)(hs1:ms.sum≤1048576)(hl2:Zl w AM n2 c2 ys ns)(hs2:ns.sum≤1048576)(hm1:n1≤524288)(hm2:n2≤524288):aQ aM 6 #[.agg #[v4 k,.bool sa,AT Aa na ca,.bool sb,AT Ab nb cb,.bool sd,AT Ad nd cd,.bool se,AT Ae ne ce,AT AL n1 c1,AT AM n2 c2]] w (Gv w (Is (By))):=by
 obtain⟨xs,hx,_⟩:=hx
 obtain⟨ys',hy,_⟩:=hy
 obtain⟨ds,hz,_⟩:=hz
 obtain⟨es,hu,_⟩:=hu
 obtain rfl:=hx.len
 obtain rfl:=hy.len
 obtain rfl:=hz.len
 obtain rfl:=hu.len
 obtain⟨σ,ω,o,h⟩:=hl1.zwS
 obtain⟨τ,υ,p,f⟩:=hl2.zwS
 exact Q7 hx la hy lb hz ld hu le o (by rw [h];exact hs1) p (by rw [f];exact hs2) hm1 hm2
theorem JN (h:i≤524288): -9223372036854775808≤((2*i+3:Nat):Int)∧((2*i+3:Nat):Int)≤9223372036854775807∧ln ((2*i+3:Nat):Int)≤1:=by
 refine⟨by omega,by omega,?_⟩
 exact kW (by omega)
theorem NY {nb:Nat}(hx:Zi w sa Aa na ca x)(la:na≤1048576)(hy:Zi w sb Ab nb cb y)(lb:nb≤1048576)(ht:Zi w sd Ad nd cd t)(ld:nd≤1048576){n:Nat}(hl:Zl w A n cap zs ms)(hs:ms.sum≤1048576)(hn:n≤524288):aQ aM 3 #[.agg #[.bool sa,AT Aa na ca,.bool sb,AT Ab nb cb,.bool sd,AT Ad nd cd],AT A n cap] w (vR true w):=by
 have Lx:ln x≤1048576:=a6 hx.ln la
 have Ly:ln y≤1048576:=a6 hy.ln lb
 have Lt:ln t≤1048576:=a6 ht.ln ld
 have ck:∀i,ms.getD i 0≤1048576:=fun i=>a6 (gR _ _) hs
 refine bP Tryz.func3 G (n:=45) G (bq G) (args:= [.agg #[.bool sa,AT Aa na ca,.bool sb,AT Ab nb cb,.bool sd,AT Ad nd cd],AT A n cap]) (bH [(0,.agg #[.bool sa,AT Aa na ca,.bool sb,AT Ab nb cb,.bool sd,AT Ad nd cd]),(1,AT A n cap)] ⟨rfl,rfl,Fo⟩ (sr (bx [.bool sa,AT Aa na ca,.bool sb,AT Ab nb cb,.bool sd,AT Ad nd cd] (Ext.refl w) G G G fun D _ av _ _ f=>(mv 1 G (aA (aH (sr (cl (vs:= []) f (Q3 _) G (by kernel_rfl) fun _ v6 r8 e7 o=>?_))))))))
 obtain rfl:=r8
 refine pu (v:= BY) G (aA (aV G (b8 (aK (sr (mv 1 G (aA (aH (sr (mv 1 G (aA (bG ?_))))))))))))
 obtain⟨ab,aj,_,_,_⟩:∃lb,lb≤v6.heap.size∧v6.heap.size≤lb∧w.heap.size≤lb∧D<lb:=⟨v6.heap.size,aS _,aS _,o.size,(av.ext e7).lt⟩
 refine cQ (T:=a7×Nat×List Int×Option aG×Nat)
  (fun⟨wr,i,qs,MA,mc⟩=> [(1,AT A n cap),(2,no D 0),(5,AT MA i mc),(6,v4 i)])
  (fun⟨wr,i,qs,MA,mc⟩=>wr)
  (fun⟨wr,i,qs,MA,mc⟩=>(Ext w wr)∧(i≤n)∧(Bk wr D 25 [.bool sa,AT Aa na ca,.bool sb,AT Ab nb cb,.bool sd,AT Ad nd cd])∧(ab≤wr.heap.size)∧(Lz (some w) 1 w.heap.size wr ab MA i mc qs))
  (fun⟨wr,i,qs,MA,mc⟩=>n-i)
  (⟨v6,0,[],none,0⟩:a7×Nat×List Int×Option aG×Nat) ⟨o,bJ _,(av.ext e7),aj,(Lz.nil _ _ _ _ _)⟩ G ⟨rfl,rfl,rfl,rfl,Fo⟩ ?_
 rintro⟨wr,i,qs,MA,mc⟩ ⟨f,_,b_2,ak,M⟩
 refine cP [(1,AT A n cap),(2,no D 0),(5,AT MA i mc),(6,v4 i)] wr G ⟨rfl,rfl,rfl,rfl,Fo⟩ ?_
 have F:=M.block
 refine aH (aH ?_)
 by_cases cm:i<n
 ·refine aJ (mv 2 G (pu (v:= v4 n) G (aN G G G true (cG (a:=i) (b:=n) G G) (aA (bB G (b8 (aK (aH (bG (aJ (mv 2 G (aT G G G ((2*i:Nat):Int) (vI (a:=2) (b:=i) G G) (aT G G G (((2*i)+3:Nat):Int) (bK (a:=2*i) (b:=3) G G) ?_)))))))))))))
  have aa:=JN (i:=i) (by omega)
  refine cl (vs:= [v4 (((2*i)+3:Nat):Int)]) f (PM f.size aa.1 aa.2.1) G (by kernel_rfl) fun _ _ bj q o=>?_
  obtain⟨az,ai,bd,aw,rfl,au⟩:=bj
  refine fA G G (k:=1) (e:=24) (O az ai bd aw) (fun _=>by kernel_rfl) fun ae _ nb=>?_
  have V:=nb.bk
  have bu:w.heap.size≤ae:=by rw [←nb.at_];exact o.size
  have cj:D<ae:=by rw [←nb.at_];exact (b_2.ext q).lt
  have ao:∀p,MA=some p→p.block≠ae:=fun p hp=>by have:=((M.ext q)).block p hp;have:=nb.at_;omega
  have E:=nb.ext
  clear nb
  have h:=o.trans E
  have W:=(M.ext (q.t E))
  obtain⟨_,_⟩:=W.own
  refine AY (e:=⟨az,ai,bd,aw⟩) (z:=((2*i+3:Nat):Int)) G G G W (a6 (a6 ak q.size) E.size) V (Or.inl (au.ext E)) (au.le (a6 aa.2.2 (by decide))) (by omega) (by decide) fun br bt am X L ar=>?_
  have Z:=L.ext h (fun p hp=>by have:=F p hp;omega)
  have I:ab≤am.heap.size:=a6 (a6 (a6 ak q.size) E.size) L.size
  have bz:=lP ar V.lt ao
  have bm:=X.block
  refine mv 1 G (aR (bM (aK (aJ (mv 1 G (aT G G G ((i+1:Nat):Int) (bK (a:=i) (b:=1) G G) (mv 1 G (aR (bX (⟨am,i+1,_,br,bt⟩:a7×Nat×List Int×Option aG×Nat) ⟨Z,(by omega),((b_2.ext (q.t E)).updO L (fun p hp=>by have:=F p hp;omega)),I,X⟩ (show n-(i+1)<n-i by omega) G ⟨rfl,rfl,rfl,rfl,Fo⟩)))))))))
 ·refine aJ (mv 2 G (pu (v:= v4 n) G (aN G G G false (cL (a:=i) (b:=n) G G) (aA (aV G (cR (cK (cN (cO (aK (aH (aH ?_))))))))))))
  obtain⟨ns,H,bi⟩:=(M).zl f
  have ci:i=n:=by omega
  have bo:ns.sum≤1048576:=a6 (BH bi) (by rw [H.mlen];omega)
  refine aJ (mv 1 G (aA (bG ?_)))
  refine cQ (T:=a7×Nat)
   (fun⟨wi,κ⟩=> [(1,AT A n cap),(2,no D 0),(5,AT MA i mc),(7,v4 κ)])
   (fun⟨wi,κ⟩=>wi)
   (fun⟨wi,κ⟩=>(Ext w wi)∧(1≤κ)∧(κ≤10)∧(Bk wi D 25 [.bool sa,AT Aa na ca,.bool sb,AT Ab nb cb,.bool sd,AT Ad nd cd])∧(Zl wi MA i mc qs ns))
   (fun⟨wi,κ⟩=>10-κ)
   (⟨wr,1⟩:a7×Nat) ⟨f,aS _,(by decide),b_2,H⟩ G ⟨rfl,rfl,rfl,rfl,Fo⟩ ?_
  rintro⟨wi,κ⟩ ⟨f,_,_,b_2,H⟩
  refine cP [(1,AT A n cap),(2,no D 0),(5,AT MA i mc),(7,v4 κ)] wi G ⟨rfl,rfl,rfl,rfl,Fo⟩ (aH (aH ?_))
  by_cases cn:κ≤9
  ·refine aJ (mv 1 G (aN G G G true (SG (a:=κ) (b:=9) G G (by omega)) (aA (bB G (b8 (aK (aH (bG (sr (mv 1 G (pf D 0 G (lo a8 b_2 (O sa Aa na ca) G G G (pf D 2 G ?_)))))))))))))
   refine lo a8 b_2 (O sb Ab nb cb) G G G (pf D 4 G (lo a8 b_2 (O sd Ad nd cd) G G G (pf D 0 G (lo a8 b_2 (O sa Aa na ca) G G G (mv 2 G (pu (v:= .agg #[v4 κ,.bool sa,AT Aa na ca,.bool sb,AT Ab nb cb,.bool sd,AT Ad nd cd,.bool sa,AT Aa na ca,AT A n cap,AT MA i mc]) G (dW G (z:= .agg #[I0,F0,S0,F0,S0,F0,S0,F0,S0,S0,S0]) (vs:= [I0,F0,S0,F0,S0,F0,S0,F0,S0,S0,S0]) (fun _=>by kernel_rfl) G fun ag _ nb=>?_)))))))
   have bc:wi.heap.size≤ag:=by rw [←nb.at_];exact aS _
   have aq:=nb.bk
   have ba:w.heap.size≤ag:=by rw [←nb.at_];exact f.size
   have cg:D<ag:=by rw [←nb.at_];exact b_2.lt
   have U:=nb.ext
   clear nb
   have o:=f.trans U
   refine so j7 aq [v4 κ,.bool sa,AT Aa na ca,.bool sb,AT Ab nb cb,.bool sd,AT Ad nd cd,.bool sa,AT Aa na ca,AT A n cap,AT MA i mc] o ba G G G G fun _ an Y h=>(aA (sr (lo j7 an [v4 κ,.bool sa,AT Aa na ca,.bool sb,AT Ab nb cb,.bool sd,AT Ad nd cd,.bool sa,AT Aa na ca,AT A n cap,AT MA i mc] G G G (cl (vs:= [.agg #[v4 κ,.bool sa,AT Aa na ca,.bool sb,AT Ab nb cb,.bool sd,AT Ad nd cd,.bool sa,AT Aa na ca,AT A n cap,AT MA i mc]]) h (Q6 (hx.ext h) (aL la G) (hy.ext h) (aL lb G) (ht.ext h) (aL ld G) (hx.ext h) (aL la G) (hl.ext h) hs (H.ext (Y.ext U bc)) bo hn (by omega)) G (by kernel_rfl) fun _ bp bh ah Z=>?_))))
   obtain rfl:=bh
   refine mv 1 G (aA (sr (mv 1 G (pu (v:= BY) G (aA (aV G (b8 (bM (aK (aJ (mv 1 G (aT G G G ((κ+1:Nat):Int) (bK (a:=κ) (b:=1) G G) (mv 1 G ?_)))))))))))))
   refine aR (bX (⟨bp,κ+1⟩:a7×Nat) ⟨Z,(by omega),(by omega),(((b_2.ext U).vN Y).ext ah),(H.ext ((Y.ext U bc).trans ah))⟩ (show 10-(κ+1)<10-κ by omega) G ⟨rfl,rfl,rfl,rfl,Fo⟩)
  ·refine aJ (mv 1 G (aN G G G false (SH (a:=κ) (b:=9) G G (by omega)) (aA (aV G (cR (cK (cN (cO (aK (sr (mv 1 G (aA (bD ?_)))))))))))))
   refine bC [By] G ⟨rfl,Fo⟩ ?_
   exact SN _ _ ⟨_,rfl,rfl,f⟩
end Go.Proofs.YtkkabncicmhjfaaGreat
