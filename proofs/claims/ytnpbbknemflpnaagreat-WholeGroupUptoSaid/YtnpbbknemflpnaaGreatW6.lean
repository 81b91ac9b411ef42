/- Parts Sne, Sn2, Sn3, Sn4, Snf, Sn5, Sng, Sn6, Gr1, Gr2, Grm, Gr3, Grw, Gr4, Gr5, Gr6, Grn, Gr7, LawG, joined. -/
import Derived.Test.YtnpbbknemflpnaaGreatW5

open Go renaming Addr → a6, Calls → aR, World → a0
open Classical renaming choose → jB, choose_spec → lX
open List renaming getD_eq_getElem?_getD → bO, length_append → kI, length_cons → iE
open Nat renaming add_assoc → jU, le_refl → aI, le_trans → a7, lt_of_lt_of_le → cJ, mul_le_mul → fV, zero_le → bX
open Or renaming inl → bE
open Go.Proofs.Tryz renaming prog → aJ
namespace Go.Proofs.YtnpbbknemflpnaaGreat
set_option maxHeartbeats 8000000
set_option maxRecDepth 20000
variable {A A1 A2 Aa Ab Al:Option a6}{B K N a b b_a b_b c ca capa capl cc g i j lb m n na r:Nat}{C R x y:Int}{X:Mx}{cs ds l us xs ys zs:List Int}{s1 s2 sa sb:Bool}{vs:List Value}{w:a0}
section
open Go.RowKit
section
variable {n c r d k B:Nat}{X Y:Mx}{D:Int}
theorem Sni.szr (h:Sni n c X D r k)(hD:0<D)(hDl:ln D≤B)(hent:∀i j,i<sA n c k→j<sB n c k→ln (cS n c X k i j)≤B):Szr (tq (cS n c X k)) (sB n c k) (sA n c k) B:=
 ⟨fun i b hi hb=>hent b i hb hi,fun d e Z o i b hi hb=>by
  refine a7 (fJ ?_) hDl
  have I:=J5 h.hf h.rn h.zb o i b hi hb
  have H:=Int.le_of_dvd hD h.dv
  have J:=nH r h.hf.pos
  omega⟩
theorem Rin.pdln (hn:n≤64)(hA:∀i b,i<n→b<c→ln (X i b)≤1048576)(h:Rin X n c d d Y):ln (pd d fun i=>Y i (ldr c (Y i)))≤136323396:=by
 obtain⟨is,hi,H,I⟩:=h.both
 have o:d≤64:=by have:=h.eN;omega
 refine nK (h.hf.toEch.pdvd I) (h.hf.toEch.mnr H) (a7 (mI (K:=1048576) d _ fun i j hi' hj=>hA _ _ (hi i hi') (h.hf.lt j hj)) ?_)
 have:=fV o (show 1048576+d≤1048640 by omega)
 omega
theorem qE (h:k%2=0):sA n c k=n:=if_pos h
theorem qC (h:k%2=0):sB n c k=c:=if_pos h
theorem qD (h:k%2=1):sA n c k=c:=if_neg (by omega)
theorem qB (h:k%2=1):sB n c k=n:=if_neg (by omega)
theorem nI (h:k%2=0):cI n c X k=cS n c X k:=if_pos h
theorem tH (h:k%2=1):cI n c X k=tq (cS n c X k):=if_neg (by omega)
theorem C5 (h:k%2=0)(hR:Rin (tq (cI n c X k)) c n d d Y):Rin (tq (cS n c X k)) (sB n c k) (sA n c k) d d Y∧∀i j,i<n→j<c→tq Y i j=cI n c X (k+1) i j:=by
 rw [nI h] at hR
 refine⟨by rw [qE h,qC h];exact hR,fun i j hi hj=>?_⟩
 rw [tH (by omega),tA,qE h,qC h]
 exact tR hR j i hj hi
theorem C4 (h:k%2=1)(hR:Rin (cI n c X k) n c d d Y):Rin (tq (cS n c X k)) (sB n c k) (sA n c k) d d Y∧∀i j,i<n→j<c→Y i j=cI n c X (k+1) i j:=by
 rw [tH h] at hR
 refine⟨by rw [qD h,qB h];exact hR,fun i j hi hj=>?_⟩
 rw [nI (by omega),tA,qD h,qB h]
 exact tR hR i j hi hj
structure Rnd (n c:Nat)(X:Mx)(D:Int)(r k:Nat):Prop extends Sni n c X D r k where
 D0:0<D
 Dl:ln D≤136323396
 ln_:∀i j,i<n→j<c→ln (cI n c X k i j)≤136323396
 no:∀j,j<k→¬eP n c (cI n c X j)
theorem Rnd.ent (h:Rnd n c X D r k):∀i j,i<sA n c k→j<sB n c k→ln (cS n c X k i j)≤136323396:=fun i j hi hj=>by
 rcases Nat.mod_two_eq_zero_or_one k with e | e
 ·rw [qE e] at hi;rw [qC e] at hj
  have:=h.ln_ i j hi hj
  rwa [nI e] at this
 ·rw [qD e] at hi;rw [qB e] at hj
  have:=h.ln_ j i hj hi
  rwa [tH e] at this
theorem Rnd.szr_e (h:Rnd n c X D r k)(e:k%2=0):Szr (tq (cI n c X k)) c n 136323396:=by
 have:=h.toSni.szr h.D0 h.Dl h.ent
 rwa [qE e,qC e,←nI e] at this
theorem Rnd.szr_o (h:Rnd n c X D r k)(e:k%2=1):Szr (cI n c X k) n c 136323396:=by
 have:=h.toSni.szr h.D0 h.Dl h.ent
 rwa [qD e,qB e,←tH e] at this
theorem Rnd.start (hn:n≤64)(hA:∀i b,i<n→b<c→ln (X i b)≤1048576)(h:Rin X n c d d Y):∃D r,Rnd n c X D r 0∧∀i j,i<n→j<c→Y i j=cI n c X 0 i j:=by
 obtain⟨r,hr,o⟩:=Sni.start h
 refine⟨_,r,⟨o,nH r hr.hf.pos,hr.pdln hn hA,fun i j hi hj=>?_,fun j hj=>absurd hj (Nat.not_lt_zero j)⟩,fun i j hi hj=>?_⟩
 ·rw [nI rfl]
  exact hr.entB (B7 hn hA) hi hj
 ·rw [nI rfl]
  exact tR h i j hi hj
theorem Rnd.even (h:Rnd n c X D r k)(e:k%2=0)(hnd:¬eP n c (cI n c X k))(hR:Rin (tq (cI n c X k)) c n d d Y):Rnd n c X D r (k+1)∧jJ n c X D r (k+1)<jJ n c X D r k:=by
 obtain⟨o,H⟩:=C5 e hR
 refine⟨⟨h.toSni.next o,h.D0,h.Dl,fun i j hi hj=>?_,fun j hj=>?_⟩,h.toSni.less h.D0 o hnd⟩
 ·rw [←H i j hi hj]
  exact hR.entB (h.szr_e e) hj hi
 ·by_cases ej:j=k
  ·rw [ej];exact hnd
  ·exact h.no j (by omega)
theorem Rnd.odd (h:Rnd n c X D r k)(e:k%2=1)(hnd:¬eP n c (cI n c X k))(hR:Rin (cI n c X k) n c d d Y):Rnd n c X D r (k+1)∧jJ n c X D r (k+1)<jJ n c X D r k:=by
 obtain⟨o,H⟩:=C4 e hR
 refine⟨⟨h.toSni.next o,h.D0,h.Dl,fun i j hi hj=>?_,fun j hj=>?_⟩,h.toSni.less h.D0 o hnd⟩
 ·rw [←H i j hi hj]
  exact hR.entB (h.szr_o e) hi hj
 ·by_cases ej:j=k
  ·rw [ej];exact hnd
  ·exact h.no j (by omega)
end
theorem N0 (hb:b≤w.heap.size)(hlb:lb≤w.heap.size)(hxa:ZF w Aa na capa 17179869184 xs)(hna:na=n*cc)(hn:n≤64)(hcc:cc≤64)(hX:En n cc X xs)(hS:Szr (tq X) cc n B)(hB34:B+1≤17179869184)(hK:200*B+400≤68719476736):aR aJ 56 #[.agg #[AI n,AI cc,By Aa na capa]] w (Gv w (MQ ((n:Nat):Int) ((cc:Nat):Int) (LQ none 17179869184 b lb (n*cc) (fun zs=>∃d Y,Rin (tq X) cc n d d Y∧En n cc (tq Y) zs)))):=by
 have fo:=hxa
 obtain⟨msa,ee,ey⟩:=hxa
 refine bQ Tryz.func56 G (n:=21) G (bq G) (args:= [.agg #[AI n,AI cc,By Aa na capa]]) (bH [(0,.agg #[AI n,AI cc,By Aa na capa])] ⟨rfl,Ht⟩ (sr (bx [AI n,AI cc,By Aa na capa] aB G G G fun g1 _ aw _ _ eg=>(dG [I0,I0,S0] eg aw.lt (fun _=>by kernel_rfl) G fun g6 v7 av cf _ e8 ba=>(aE (sr (lo bS (aw.ext e8) [AI n,AI cc,By Aa na capa] G G G ?_)))))))
 obtain⟨_,bj,_,_,_,_⟩:∃lb,lb≤v7.heap.size∧v7.heap.size≤lb∧w.heap.size≤lb∧g1<lb∧g6<lb:=⟨v7.heap.size,aI _,aI _,ba.size,(aw.ext e8).lt,av.lt⟩
 refine cl (vs:= [.agg #[AI n,AI cc,By Aa na capa]]) ba (E1 (r:=n) (c:=cc) (K:=17179869184) (X:=X) ba.size bj ((show ZF w _ _ _ _ _ from⟨msa,ee,ey⟩).ext ba) hna hn hcc hX (by decide)) G (by kernel_rfl) fun _ _ du ai dn=>?_
 obtain⟨_,_,rfl,⟨_,rfl,⟨o,ae,_,rfl,ac,cg⟩⟩,r16_1⟩:=du
 have ez:=ac.block
 obtain rfl:=r16_1
 refine mv 1 G (pu (v:= .agg #[AI cc,AI n,By o (cc*n) ae]) G (pu (v:= AI 0) G (dG [I0,I0,S0] dn (av.ext ai).lt (fun _=>by kernel_rfl) G fun da _ ab au _ U dl=>(so bS ab [AI cc,AI n,By o (cc*n) ae] dl au G G G G fun bo aq I ce=>(mv 1 G (aE (sr (lo bS aq [AI cc,AI n,By o (cc*n) ae] G G G ?_))))))))
 obtain⟨cu,bz,ak,_,_,_,_⟩:∃lb,lb≤bo.heap.size∧bo.heap.size≤lb∧w.heap.size≤lb∧g1<lb∧g6<lb∧da<lb:=⟨bo.heap.size,aI _,aI _,ce.size,((aw.ext (e8.t (ai.t U))).vN I).lt,((av.ext (ai.t U)).vN I).lt,aq.lt⟩
 have fd:∀p:a6,o=some p→p.block<cu:=fun p hp=>cJ ((((ac.ext U).updY ab I)).block p hp).2 ak
 refine cl (vs:= [.agg #[AI cc,AI n,By o (cc*n) ae]]) ce (xZ (X:=tq X) ce.size bz (((ac.ext U).updY ab I).zf0) G hcc hn cg hS hB34 hK) G (by kernel_rfl) fun _ _ fg ao dh=>?_
 obtain⟨_,_,rfl,⟨_,rfl,⟨J,ag,_,rfl,az,cm⟩⟩,r36_1⟩:=fg
 have fb:=az.block
 obtain rfl:=r36_1
 refine mv 1 G (pu (v:= .agg #[AI cc,AI n,By J (cc*n) ag]) G (pu (v:= AI 0) G ?_))
 have ah:=(aq.ext ao)
 refine so bS ah [AI cc,AI n,By J (cc*n) ag] dh au G G G G fun bu ar aj cd=>(aE (aH ?_))
 obtain⟨d1,Y1,fj,em⟩:=cm
 refine aL (lo bS ar [AI cc,AI n,By J (cc*n) ag] G G G ?_)
 obtain⟨bc,bw,aa,bv,_,_,_⟩:∃lb,lb≤bu.heap.size∧bu.heap.size≤lb∧w.heap.size≤lb∧g1<lb∧g6<lb∧da<lb:=⟨bu.heap.size,aI _,aI _,cd.size,((((aw.ext (e8.t (ai.t U))).vN I).ext ao).vN aj).lt,((((av.ext (ai.t U)).vN I).ext ao).vN aj).lt,ar.lt⟩
 have dq:∀p:a6,o=some p→p.block<bc:=fun p hp=>cJ ((((((ac.ext U).updY ab I).ext ao).updY ah aj)).block p hp).2 aa
 have ew:∀p:a6,J=some p→p.block<bc:=fun p hp=>cJ (((az.updY ah aj)).block p hp).2 aa
 refine cl (vs:= [.agg #[AI cc,AI n,By J (cc*n) ag]]) cd (E1 (r:=cc) (c:=n) (K:=17179869184) (X:=Y1) cd.size bw ((az.updY ah aj).zf0) G hcc hn em (by decide)) G (by kernel_rfl) fun _ _ ep cj fh=>?_
 obtain⟨_,_,rfl,⟨_,rfl,⟨H,h,_,rfl,bi,cx⟩⟩,r51_1⟩:=ep
 have dw:=bi.block
 obtain rfl:=r51_1
 refine mv 1 G (pu (v:= .agg #[AI n,AI cc,By H (n*cc) h]) G (pu (v:= AI 0) G ?_))
 have bg:=(ar.ext cj)
 refine so bS bg [AI n,AI cc,By H (n*cc) h] fh au G G G G fun _ cn cz dm=>(aE (sr (lo bS cn [AI n,AI cc,By H (n*cc) h] G G G ?_)))
 have bh:=((((((av.ext (ai.t U)).vN I).ext ao).vN aj).ext cj).vN cz)
 refine so bS bh [AI n,AI cc,By H (n*cc) h] dm cf G G G G fun _ co fe dd=>(aE (bG (bF [.agg #[AI n,AI cc,By H (n*cc) h]] G ⟨⟨_,rfl,bY bS co [AI n,AI cc,By H (n*cc) h] G (bq G) rfl⟩,Ht⟩ ?_)))
 exact⟨_,rfl,⟨_,rfl,⟨_,_,_,rfl,(((bi.updY bg cz).updY bh fe)).mono (aI _) hb (a7 hlb bv),⟨d1,Y1,fj,cx⟩⟩⟩,dd⟩
theorem Kps.ln {k:Nat}{f g:Nat→Int}(h:Kps m f g)(hN:Go.Proofs.YtnpbbknemflpnaaGreat.ln (pd m fun k=>nz (f k))≤N)(hk:k<m):Go.Proofs.YtnpbbknemflpnaaGreat.ln (g k)≤N:=by
 by_cases h0:g k=0
 ·rw [h0];exact bX _
 ·have h1:g k∣pd m fun k=>nz (g k):=by
   have:=qH (f:=fun k=>nz (g k)) hk
   rwa [show nz (g k)=g k from if_neg h0] at this
  rw [h.pn] at h1
  refine nK h1 ?_ hN
  have key:∀n,(pd n fun k=>nz (f k))≠0:=fun n=>by
   induction n with
   | zero=>exact (by decide:(1:Int)≠0)
   | succ n ih=>rw [pd];exact Int.mul_ne_zero ih (CO _)
  exact key m
theorem LD (hx:ln x≤N)(hy:ln y≤N):ln (Int.lcm x y:Int)≤2*N:=by
 refine a7 (a7 (fJ (y:=x*y) ?_) (eX hx hy)) (by omega)
 rw [Int.natAbs_natCast]
 by_cases h:x*y=0
 ·have:Int.lcm x y=0:=by
   rcases Int.mul_eq_zero.1 h with e | e
   ·rw [e,Int.zero_lcm]
   ·rw [e,Int.lcm_zero]
  omega
 ·exact Nat.le_of_dvd (by omega) (by rw [Int.natAbs_mul];exact Nat.lcm_dvd_mul _ _)
theorem QV (hz:∀a,a<i→ds.getD a 0=zs.getD a 0)(hi:i<ds.length)(h0:0≤zs.getD i 0):∀a,a<i+1→(ds.set i ((zs.getD i 0).natAbs:Int)).getD a 0=zs.getD a 0:=fun a _=>by
 rw [jM hi]
 by_cases e:a=i
 ·rw [if_pos e,e];omega
 ·rw [if_neg e];exact hz a (by omega)
theorem Q0 {t:Nat}{f:Nat→Int}(h:∀a,a<m→us.getD a 0=gN f i t a)(hl:us.length=m)(ht:i+1+t<m):∀a,a<m→(((us.set (i+1+t) (Int.lcm (us.getD i 0) (us.getD (i+1+t) 0):Int)).set i (Int.gcd (us.getD i 0) (us.getD (i+1+t) 0):Int))).getD a 0=gN f i (t+1) a:=fun a I=>by
 rw [jM (by rw [List.length_set];omega),jM (by omega),h i (by omega),h _ ht]
 show _=fS (gN f i t) i (i+1+t) a
 unfold fS
 by_cases H:a=i
 ·rw [if_pos H,if_pos H]
 ·rw [if_neg H,if_neg H]
  by_cases o:a=i+1+t
  ·rw [if_pos o,if_pos o]
  ·rw [if_neg o,if_neg o];exact h a I
theorem NE (hb:b≤w.heap.size)(hlb:lb≤w.heap.size){mm:Nat}(hxl:ZF w Al mm capl 17179869184 zs)(hmm:mm≤64)(h0:∀k,k<mm→0≤zs.getD k 0)(hP:ln (pd mm fun k=>nz (zs.getD k 0))≤136323396):aR aJ 58 #[By Al mm capl] w (Gv w (LQ none 17179869184 b lb mm (fun cs=>∀a,a<mm→cs.getD a 0=i8 (fun k=>zs.getD k 0) mm mm a))):=by
 obtain⟨msl,kt,ji⟩:=hxl
 refine bQ Tryz.func58 G (n:=65) G (bq G) (args:= [By Al mm capl]) (bH [(0,By Al mm capl)] ⟨rfl,Ht⟩ (sr (mv 1 G (aE (sr (mv 1 G (pu (v:= AI mm) G (sL (k:=mm) none 17179869184 w.heap.size G G G fun H v2 iz iS e5=>?_))))))))
 have fq:H≤v2.heap.size:=by have:=(iS.block _ G).2;exact Nat.le_of_lt this
 have fv:w.heap.size≤H:=by rw [←iz];exact (Ext.refl w).size
 clear iz
 have J:=(Ext.refl w).trans e5
 have lh:=iS.block
 refine mv 1 G (aE (aH (sr (mv 1 G (pu (v:= AI mm) G (mv 1 G (aE (bB ?_))))))))
 refine d6 (T:=a0×Nat×List Int) (fun⟨wr,i,ds⟩=> [(0,By Al mm capl),(2,By none 0 0),(3,By (some ⟨H,0,none⟩) mm mm),(9,By Al mm capl),(10,AI mm),(11,By (some ⟨H,0,none⟩) mm mm),(12,By Al mm capl),(13,AI mm),(14,AI i)]) (fun⟨wr,i,ds⟩=>wr) (fun⟨wr,i,ds⟩=>(Ext w wr)∧(i≤mm)∧(H≤wr.heap.size)∧(Lz none 17179869184 w.heap.size wr H (some ⟨H,0,none⟩) mm mm ds)∧(∀a,a<i→ds.getD a 0=zs.getD a 0)) (fun⟨wr,i,ds⟩=>mm-i)
  (⟨v2,0,List.replicate mm 0⟩:a0×Nat×List Int) ⟨J,(by omega),fq,iS,(fun a h=>absurd h (Nat.not_lt_zero a))⟩ G ⟨rfl,rfl,rfl,rfl,rfl,rfl,rfl,rfl,rfl,Ht⟩ ?_
 rintro⟨wr,i,ds⟩ ⟨J,_,l_someg10noneb,l_someg10none,hz⟩
 refine d4 [(0,By Al mm capl),(2,By none 0 0),(3,By (some ⟨H,0,none⟩) mm mm),(9,By Al mm capl),(10,AI mm),(11,By (some ⟨H,0,none⟩) mm mm),(12,By Al mm capl),(13,AI mm),(14,AI i)] wr G ⟨rfl,rfl,rfl,rfl,rfl,rfl,rfl,rfl,rfl,Ht⟩ ?_
 have iq:=l_someg10none.block
 refine aH ?_
 by_cases jo:i<mm
 ·refine aL (aN G G G true (dB (a:=i) (b:=mm) G G) (aE (aH (bJ G (bA (aM (aH (bB (sr (mv 1 G ?_))))))))))
  obtain⟨kd,ic,gt,gj,ir,ja,jw⟩:=kt.at (i:=i) (by omega)
  refine aX G G G bM aG.size i G kd ir (aK G G (ja _ J _ _ aG) (dM G (z:= .agg #[F0,S0]) (vs:= [F0,S0]) (fun _=>by kernel_rfl) G fun g9 _ nb=>?_))
  have ce:=nb.bk
  have ju:w.heap.size≤g9:=by rw [←nb.at_];exact J.size
  have fj:∀p:a6,(some ⟨H,0,none⟩)=some p→p.block≠g9:=fun p hp=>by have:=(l_someg10none).block p hp;have:=nb.at_;omega
  have dl:=nb.ext
  clear nb
  have aw:=J.trans dl
  refine mv 1 G (so aG ce [.bool ic,By gt (msl.getD i 0) gj] aw ju G G G G fun _ jj fr ak=>(aE (aL (mv 2 G (lo aG jj [.bool ic,By gt (msl.getD i 0) gj] G G G ?_)))))
  have kk:ln ((Int.natAbs (zs.getD i 0):Int))≤17179869184:=(by rw [k8];exact (a7 jw.ln (ji i)))
  refine cl (vs:= [.agg #[.bool ic,By gt (msl.getD i 0) gj]]) ak (oX ak.size (jw.ext ak) (a7 (ji i) (by decide))) G (by kernel_rfl) fun _ _ kj ge au=>?_
  obtain⟨kg,ki,kp,kw,rfl,iv⟩:=kj
  obtain⟨iu,_,_,_,_,cu,_,fo,jg⟩:=((((l_someg10none.ext dl).updT ce fr fj).ext ge)).at (i:=i) (by omega)
  have iy:=jg.zr
  have ky:ln (ds.getD i 0)≤17179869184:=iy.ln_le fo
  refine aX G G G bM aG.size i G iu cu ?_
  have ez:=(((l_someg10none.ext dl).updT ce fr fj).ext ge)
  obtain⟨_,_⟩:=ez.own
  refine kL (e:=⟨kg,ki,kp,kw⟩) (z:=(Int.natAbs (zs.getD i 0):Int)) G G G cu ez (bE iv) (iv.le (aZ kk G)) fun jp ij em=>?_
  have dh:=em.ext au (fun p hp=>by have:=iq p hp;omega)
  have bz:H≤jp.heap.size:=a7 (a7 (a7 (a7 l_someg10noneb dl.size) fr.by_.size) ge.size) em.size
  refine aS (cC (aM (aL (bC G G G ((i+1:Nat):Int) (bW (a:=i) (b:=1) G G) (mv 1 G (aS (cB (⟨jp,i+1,ds.set i (Int.natAbs (zs.getD i 0):Int)⟩:a0×Nat×List Int) ⟨dh,(by omega),bz,ij,(QV hz (by rw [l_someg10none.len];exact jo) (h0 i jo))⟩ (show mm-(i+1)<mm-i by omega) G ⟨rfl,rfl,rfl,rfl,rfl,rfl,rfl,rfl,rfl,Ht⟩)))))))
 ·refine aL (aN G G G false (dK (a:=i) (b:=mm) G G) (aE (aH (aY G (cM (cK (cT (cL (aM (aH (sr (mv 1 G (pu (v:= AI mm) G ?_)))))))))))))
  refine mv 1 G (aE (bB ?_))
  have ku:∀a,a<mm→ds.getD a 0=i8 (fun k=>zs.getD k 0) mm 0 a:=fun a ha=>hz a (by omega)
  clear hz
  refine d6 (T:=a0×Nat×List Int) (fun⟨wi,o,es⟩=> [(0,By Al mm capl),(2,By none 0 0),(3,By (some ⟨H,0,none⟩) mm mm),(9,By Al mm capl),(10,AI mm),(11,By (some ⟨H,0,none⟩) mm mm),(12,By Al mm capl),(13,AI mm),(15,Hs),(25,By (some ⟨H,0,none⟩) mm mm),(26,AI mm),(27,AI o)]) (fun⟨wi,o,es⟩=>wi) (fun⟨wi,o,es⟩=>(Ext w wi)∧(o≤mm)∧(H≤wi.heap.size)∧(Lz none 17179869184 w.heap.size wi H (some ⟨H,0,none⟩) mm mm es)∧(∀a,a<mm→es.getD a 0=i8 (fun k=>zs.getD k 0) mm o a)) (fun⟨wi,o,es⟩=>mm-o)
   (⟨wr,0,ds⟩:a0×Nat×List Int) ⟨J,(by omega),l_someg10noneb,l_someg10none,ku⟩ G ⟨rfl,rfl,rfl,rfl,rfl,rfl,rfl,rfl,rfl,rfl,rfl,rfl,Ht⟩ ?_
  rintro⟨wi,o,es⟩ ⟨J,_,l_someg10noneb,l_someg10none,hz⟩
  refine d4 [(0,By Al mm capl),(2,By none 0 0),(3,By (some ⟨H,0,none⟩) mm mm),(9,By Al mm capl),(10,AI mm),(11,By (some ⟨H,0,none⟩) mm mm),(12,By Al mm capl),(13,AI mm),(15,Hs),(25,By (some ⟨H,0,none⟩) mm mm),(26,AI mm),(27,AI o)] wi G ⟨rfl,rfl,rfl,rfl,rfl,rfl,rfl,rfl,rfl,rfl,rfl,rfl,Ht⟩ ?_
  have kx:=l_someg10none.block
  refine aH ?_
  by_cases dd:o<mm
  ·refine aL (aN G G G true (dB (a:=o) (b:=mm) G G) (aE (aH (bJ G (bA (aM (aH (bB (sr (mv 2 G (aE (sr (mv 1 G ?_)))))))))))))
   refine bC G G G ((o+1:Nat):Int) (bW (a:=o) (b:=1) G G) (mv 1 G (aE (bB ?_)))
   have kq:∀a,a<mm→es.getD a 0=gN (i8 (fun k=>zs.getD k 0) mm o) o 0 a:=hz
   refine d6 (T:=a0×Nat×List Int) (fun⟨wt,t,us⟩=> [(0,By Al mm capl),(2,By none 0 0),(3,By (some ⟨H,0,none⟩) mm mm),(6,AI o),(7,AI ((o+1+t:Nat):Int)),(9,By Al mm capl),(10,AI mm),(11,By (some ⟨H,0,none⟩) mm mm),(12,By Al mm capl),(13,AI mm),(15,Hs),(25,By (some ⟨H,0,none⟩) mm mm),(26,AI mm),(27,AI o),(28,BY),(29,AI o),(30,AI o),(31,AI ((o+1:Nat):Int))]) (fun⟨wt,t,us⟩=>wt) (fun⟨wt,t,us⟩=>(Ext w wt)∧(t≤mm-(o+1))∧(H≤wt.heap.size)∧(Lz none 17179869184 w.heap.size wt H (some ⟨H,0,none⟩) mm mm us)∧(∀a,a<mm→us.getD a 0=gN (i8 (fun k=>zs.getD k 0) mm o) o t a)) (fun⟨wt,t,us⟩=>(mm-(o+1))-t)
    (⟨wi,0,es⟩:a0×Nat×List Int) ⟨J,(by omega),l_someg10noneb,l_someg10none,kq⟩ G ⟨rfl,rfl,rfl,rfl,rfl,rfl,rfl,rfl,rfl,rfl,rfl,rfl,rfl,rfl,rfl,rfl,rfl,rfl,Ht⟩ ?_
   rintro⟨wt,t,us⟩ ⟨J,_,l_someg10noneb,l_someg10none,hy⟩
   refine d4 [(0,By Al mm capl),(2,By none 0 0),(3,By (some ⟨H,0,none⟩) mm mm),(6,AI o),(7,AI ((o+1+t:Nat):Int)),(9,By Al mm capl),(10,AI mm),(11,By (some ⟨H,0,none⟩) mm mm),(12,By Al mm capl),(13,AI mm),(15,Hs),(25,By (some ⟨H,0,none⟩) mm mm),(26,AI mm),(27,AI o),(28,BY),(29,AI o),(30,AI o),(31,AI ((o+1:Nat):Int))] wt G ⟨rfl,rfl,rfl,rfl,rfl,rfl,rfl,rfl,rfl,rfl,rfl,rfl,rfl,rfl,rfl,rfl,rfl,rfl,Ht⟩ ?_
   have cn:=l_someg10none.block
   refine aH (aH ?_)
   by_cases ht:t<mm-(o+1)
   ·refine aL (mv 2 G (pu (v:= AI mm) G (aN G G G true (dB (a:=o+1+t) (b:=mm) G G) (aE (bJ G (bA (aM (aH (bB (aH ?_))))))))))
    have kc:=(yO (u9 (m:=mm) (f:=(fun k=>zs.getD k 0)) h0 o (by omega)).1 (u9 (m:=mm) (f:=(fun k=>zs.getD k 0)) h0 o (by omega)).2 dd t (by omega)).1
    have ab:∀a,a<mm→ln (us.getD a 0)≤136323396:=fun a ha=>by rw [hy a ha];exact kc.ln hP ha
    have li:=ab o dd
    obtain⟨fa,ey,ep,fg,fb,fz,ft,_,jf⟩:=(l_someg10none).at (i:=o) (by omega)
    have fh:=jf.zr
    have ip:ln (us.getD o 0)≤136323396:=(ab (o) (by omega))
    obtain⟨dy,fe,fd,eh,fk,ia,gy,_,jt⟩:=(l_someg10none).at (i:=o+1+t) (by omega)
    have ee:=jt.zr
    have il:ln (us.getD (o+1+t) 0)≤136323396:=(ab (o+1+t) (by omega))
    refine dP cF 10 [] [Is (By (some ⟨H,0,none⟩) mm mm),Is (AI o),Is (.pointer (some fa)),Is (O ey ep fg fb),Is (By (some ⟨H,0,none⟩) mm mm),Is (AI ((o+1+t:Nat):Int)),Is (.pointer (some dy)),Is (O fe fd eh fk),ZR w.heap.size ((Int.gcd (us.getD o 0) (us.getD (o+1+t) 0):Int)),PR wt.heap.size 41 [F0,S0]] [[],[],[0,1],[2],[],[],[4,5],[6],[3,7],[]] [[],[],[0,1],[0,1,2],[],[],[4,5],[4,5,6],[0,1,2,3,4,5,6,7],[],[0,1,2,3,4,5,6,7,8,9]] rfl
     (aD G G (aA G G ?_) (aD G G (aA G G ?_) (aD G G (aA G G ?_) (aD G G (aA G G ?_) (aD G G (aA G G ?_) (aD G G (aA G G ?_) (aD G G (aA G G ?_) (aD G G (aA G G ?_) (aD G G (aA G G ?_) (aD G G (aA G G ?_) dF)))))))))) ?_
    ·exact fun _ _=>a8 (mv 1 G (aC G aB G))
    ·exact fun _ _=>a8 (mv 1 G (aC G aB G))
    ·exact fun _ _=>dk G G (dk G G (a8 (aX G G G bM aG.size o G fa fz (aC G aB G))))
    ·exact fun _ kv=>dk G G (a8 (aK G G (ft _ kv _ _ aG) (aC G aB G)))
    ·exact fun _ _=>a8 (mv 1 G (aC G aB G))
    ·exact fun _ _=>a8 (mv 1 G (aC G aB G))
    ·exact fun _ _=>dk G G (dk G G (a8 (aX G G G bM aG.size (o+1+t) G dy ia (aC G aB G))))
    ·exact fun _ kb=>dk G G (a8 (aK G G (gy _ kb _ _ aG) (aC G aB G)))
    ·intro _ ib
     have aw:=J.trans ib
     refine dk G G (dk G G (a8 (cl (vs:= [O ey ep fg fb,O fe fd eh fk]) aw (E7 aw.size (fh.ext ib).zi (fh.le (aZ ip G)) (ee.ext ib).zi (ee.le (aZ il G))) G (by kernel_rfl) fun _ _ ka ks ak=>?_)))
     obtain⟨_,_,_,_,rfl,ko⟩:=ka
     exact aC G ks ⟨_,_,_,_,rfl,ko⟩
    ·intro _ jh
     refine a8 (dM G (z:= .agg #[F0,S0]) (vs:= [F0,S0]) (fun _=>by kernel_rfl) G fun _ _ nb=>?_)
     exact aC G nb.ext ⟨_,rfl,by rw [←nb.at_];exact jh.size,nb.bk⟩
    ·intro _ aj
     have aw:=J.trans aj
     refine dk G G (dk G G (dk G G (dk G G (dk G G (dk G G (dk G G (dk G G (aT G G fun _ _ jx _ jl=>?_))))))))
     obtain⟨bo,cj,cx,cz,rfl,ar⟩:=jx
     have ar:=ar.ext jl
     refine aT G G fun _ _ je _ jq=>?_
     obtain⟨ew,rfl,U,I⟩:=je
     have I:=I.ext jq
     have ac:∀p:a6,(some ⟨H,0,none⟩)=some p→p.block≠ew:=fun p hp=>by have:=(l_someg10none).block p hp;have:=U;omega
     have U:w.heap.size≤ew:=a7 J.size U
     refine a8 (so aG I (a4 bo cj cx cz) aw U G G G G fun _ fy ai ak=>(aS (dA (aM (aH ?_)))))
     obtain⟨cm,cf,co,dc,bg,du,dw,_,gk⟩:=(((l_someg10none.ext aj).updT I ai ac)).at (i:=o) (by omega)
     have cg:=gk.zr
     have gg:ln (us.getD o 0)≤136323396:=(ab (o) (by omega))
     obtain⟨aa,bw,bu,bj,ba,ag,dq,_,ig⟩:=(((l_someg10none.ext aj).updT I ai ac)).at (i:=o+1+t) (by omega)
     have bi:=ig.zr
     have ie:ln (us.getD (o+1+t) 0)≤136323396:=(ab (o+1+t) (by omega))
     refine dP cF 12 [] [Is (By (some ⟨H,0,none⟩) mm mm),Is (AI ((o+1+t:Nat):Int)),Is (By (some ⟨H,0,none⟩) mm mm),Is (AI o),Is (.pointer (some cm)),Is (O cf co dc bg),Is (By (some ⟨H,0,none⟩) mm mm),Is (AI ((o+1+t:Nat):Int)),Is (.pointer (some aa)),Is (O bw bu bj ba),ZR w.heap.size ((Int.lcm (us.getD o 0) (us.getD (o+1+t) 0):Int)),Is (.pointer (some aa))] [[],[],[],[],[2,3],[4],[],[],[6,7],[8],[5,9],[0,1]] [[],[],[],[],[2,3],[2,3,4],[],[],[6,7],[6,7,8],[2,3,4,5,6,7,8,9],[0,1,2,3,4,5,6,7,8,9,10],[0,1,2,3,4,5,6,7,8,9,10,11]] rfl
      (aD G G (aA G G ?_) (aD G G (aA G G ?_) (aD G G (aA G G ?_) (aD G G (aA G G ?_) (aD G G (aA G G ?_) (aD G G (aA G G ?_) (aD G G (aA G G ?_) (aD G G (aA G G ?_) (aD G G (aA G G ?_) (aD G G (aA G G ?_) (aD G G (aA G G ?_) (aD G G (aA G G ?_) dF)))))))))))) ?_
     ·exact fun _ _=>a8 (mv 1 G (aC G aB G))
     ·exact fun _ _=>a8 (mv 1 G (aC G aB G))
     ·exact fun _ _=>a8 (mv 1 G (aC G aB G))
     ·exact fun _ _=>a8 (mv 1 G (aC G aB G))
     ·exact fun _ _=>dk G G (dk G G (a8 (aX G G G bM aG.size o G cm du (aC G aB G))))
     ·exact fun _ iw=>dk G G (a8 (aK G G (dw _ iw _ _ aG) (aC G aB G)))
     ·exact fun _ _=>a8 (mv 1 G (aC G aB G))
     ·exact fun _ _=>a8 (mv 1 G (aC G aB G))
     ·exact fun _ _=>dk G G (dk G G (a8 (aX G G G bM aG.size (o+1+t) G aa ag (aC G aB G))))
     ·exact fun _ jd=>dk G G (a8 (aK G G (dq _ jd _ _ aG) (aC G aB G)))
     ·intro _ cd
      have au:=ak.trans cd
      refine dk G G (dk G G (a8 (cl (vs:= [O cf co dc bg,O bw bu bj ba]) au (OL au.size (cg.ext cd).zi (cg.le (aZ gg G)) (bi.ext cd).zi (bi.le (aZ ie G))) G (by kernel_rfl) fun _ _ jb jv dh=>?_)))
      obtain⟨_,_,_,_,rfl,im⟩:=jb
      exact aC G jv ⟨_,_,_,_,rfl,im⟩
     ·exact fun _ _=>dk G G (dk G G (a8 (aX G G G bM aG.size (o+1+t) G aa ag (aC G aB G))))
     ·intro _ ah
      have au:=ak.trans ah
      refine dk G G (dk G G (dk G G (dk G G (dk G G (dk G G (dk G G (dk G G (dk G G (dk G G (aT G G fun _ _ ik _ io=>?_))))))))))
      obtain⟨jn,jm,jr,ix,rfl,ao⟩:=ik
      have ao:=ao.ext io
      refine dk G G (a8 ?_)
      have bc:=(((l_someg10none.ext aj).updT I ai ac).ext ah)
      obtain⟨_,dm⟩:=bc.own
      refine kL (e:=⟨jn,jm,jr,ix⟩) (z:=(Int.lcm (us.getD o 0) (us.getD (o+1+t) 0):Int)) G G G ag bc (bE ao) (ao.le (a7 (LD (ab o dd) (ab (o+1+t) (by omega))) (by decide))) fun jk bv ae=>?_
      have dh:=ae.ext au (fun p hp=>by have:=cn p hp;omega)
      have av:H≤jk.heap.size:=a7 (a7 (a7 (a7 l_someg10noneb aj.size) ai.by_.size) ah.size) ae.size
      refine aS (dA (aM (aL (mv 2 G (lo aG ((fy.ext ah).updO ae ac) (a4 bo cj cx cz) G G G ?_)))))
      obtain⟨gc,_,_,_,_,aq,_,df,fx⟩:=(bv).at (i:=o) (by omega)
      have gx:=fx.zr
      have jz:ln ((us.set (o+1+t) (Int.lcm (us.getD o 0) (us.getD (o+1+t) 0):Int)).getD o 0)≤17179869184:=gx.ln_le df
      refine aX G G G bM aG.size o G gc aq ?_
      have da:=bv
      obtain⟨_,_⟩:=da.own
      refine kL (e:=⟨bo,cj,cx,cz⟩) (z:=(Int.gcd (us.getD o 0) (us.getD (o+1+t) 0):Int)) G G G aq da (bE (((ar.updT I ai).ext ah).updOT dm ae)) (ar.le (a7 (a7 (tM _ _) (Nat.max_le.2 ⟨ab o dd,ab (o+1+t) (by omega)⟩)) (by decide))) fun eg gn bh=>?_
      have jy:=bh.ext dh (fun p hp=>by have:=cn p hp;omega)
      have az:H≤eg.heap.size:=a7 av bh.size
      refine aS (cC (aM (aL (mv 1 G (bC G G G (((o+1+t)+1:Nat):Int) (bW (a:=o+1+t) (b:=1) G G) (mv 1 G (aS (cB (⟨eg,t+1,(us.set (o+1+t) (Int.lcm (us.getD o 0) (us.getD (o+1+t) 0):Int)).set o (Int.gcd (us.getD o 0) (us.getD (o+1+t) 0):Int)⟩:a0×Nat×List Int) ⟨jy,(by omega),az,gn,(Q0 hy (by rw [l_someg10none.len]) (by omega))⟩ (show (mm-(o+1))-(t+1)<(mm-(o+1))-t by omega) G ⟨rfl,rfl,rfl,rfl,rfl,rfl,rfl,rfl,rfl,rfl,rfl,rfl,rfl,rfl,rfl,rfl,rfl,rfl,Ht⟩))))))))
   ·refine aL (mv 2 G (pu (v:= AI mm) G (aN G G G false (dK (a:=o+1+t) (b:=mm) G G) (aE (aY G (cM (cK (cT (cL (cC (aM (aL (bC G G G ((o+1:Nat):Int) (bW (a:=o) (b:=1) G G) ?_)))))))))))))
    refine mv 1 G (aS (cB (⟨wt,o+1,us⟩:a0×Nat×List Int) ⟨J,(by omega),l_someg10noneb,l_someg10none,(fun a ha=>(hy a ha).trans (by rw [show t=mm-(o+1) by omega];rfl))⟩ (show mm-(o+1)<mm-o by omega) G ⟨rfl,rfl,rfl,rfl,rfl,rfl,rfl,rfl,rfl,rfl,rfl,rfl,Ht⟩))
  ·refine aL (aN G G G false (dK (a:=o) (b:=mm) G G) (aE (aH (aY G (cM (cK (cT (cL (aM (sr (mv 2 G (aE (bG ?_)))))))))))))
   refine bF [By (some ⟨H,0,none⟩) mm mm] G ⟨rfl,Ht⟩ ?_
   exact⟨_,rfl,⟨_,_,_,rfl,(l_someg10none).mono (aI _) hb (a7 hlb fv),(fun a ha=>(hz a ha).trans (by rw [show o=mm by omega]))⟩,J⟩
def jN (f:Nat→Int):Mx:=fun i j=>if i=j then f i else 0
theorem NI (hb:b≤w.heap.size){mm ga:Nat}(hmm:mm=min r c)(hi:i<r)(hj:j<c)(hxl:ZF w Al mm capl 17179869184 zs)(hga:Bk w ga 22 [By Al mm capl]):aR aJ 74 #[AI i,AI j,a9 ga 0] w (Gv w (ZR b (jN (fun k=>zs.getD k 0) i j))):=by
 have bj:=hxl
 obtain⟨msl,ao,az⟩:=hxl
 refine bQ Tryz.func74 G (n:=21) G (bq G) (args:= [AI i,AI j,a9 ga 0]) ?_
 have ak:=hga.lt
 refine bH [(0,AI i),(1,AI j),(2,a9 ga 0)] ⟨rfl,rfl,rfl,Ht⟩ (sr (dG [F0,S0] aB hga.lt (fun _=>by kernel_rfl) G fun _ _ aj ag _ e3 h=>(aE (aH (aH ?_)))))
 by_cases ae:i=j
 ·refine aL (mv 2 G (aN G G G true (kD (a:=i) (b:=j) G G) (mv 2 G (aK G G (aQ cD (hga.ext e3) G) (pu (v:= AI mm) G (aN G G G true (dB (a:=i) (b:=mm) G G) (pu (v:= BY) G (aE (bJ G (sr (aK G G (aQ cD (hga.ext e3) G) (mv 1 G ?_))))))))))))
  obtain⟨aw,bg,ar,av,ac,ah,ba⟩:=ao.at (i:=i) (by omega)
  refine aX G G G bM aG.size i G aw ac (aK G G (ah _ h _ _ aG) (cl (vs:= [.agg #[.bool bg,By ar (msl.getD i 0) av]]) h (nP h.size (ba.ext h) (a7 (az i) (by decide))) G (by kernel_rfl) fun _ _ au e9 H=>?_))
  obtain⟨aa,J,U,I,rfl,bh⟩:=au
  have o:=(aj.ext e9)
  refine so aG o (a4 aa J U I) H ag G G G G fun _ ai bi aq=>(aE (bG (dZ (bF [O aa J U I] G ⟨⟨_,rfl,bY aG ai (a4 aa J U I) G (bq G) rfl⟩,Ht⟩ ?_))))
  exact⟨_,rfl,⟨_,_,_,_,rfl,(((bh.updT o bi)).cast (show (zs.getD i 0)=jN (fun k=>zs.getD k 0) i j by unfold jN;rw [if_pos ae])).mono hb⟩,aq⟩
 ·refine aL (mv 2 G (aN G G G false (kS (a:=i) (b:=j) G G) (mv 5 G (pu (v:= Hs) G (aE (aY G (bA (aM (sr (pu (v:= .agg #[F0,S0]) G (so aG aj [F0,S0] h ag G G G G fun bc ab _ H=>(aE (bG ?_)))))))))))))
  refine bF [.agg #[F0,S0]] G ⟨⟨_,rfl,bY aG ab [F0,S0] G (bq G) rfl⟩,Ht⟩ ?_
  exact⟨_,rfl,⟨_,_,_,_,rfl,(((Zr.zero (w:=bc) (base:=w.heap.size))).cast (show 0=jN (fun k=>zs.getD k 0) i j by unfold jN;rw [if_neg ae])).mono hb⟩,H⟩
theorem NJ (hb:b≤w.heap.size)(hlb:lb≤w.heap.size){mm:Nat}(hmm:mm=min r c)(hr:r≤64)(hc:c≤64)(hxl:ZF w Al mm capl 17179869184 zs):aR aJ 57 #[AI r,AI c,By Al mm capl] w (Gv w (T2 (MQ ((r:Nat):Int) ((c:Nat):Int) (LQ none 17179869184 b lb (r*c) (En r c (jN (fun k=>zs.getD k 0))))) (Is (AI 0)))):=by
 have aa:=hxl
 obtain⟨msl,_,_⟩:=hxl
 refine bQ Tryz.func57 G (n:=28) G (bq G) (args:= [AI r,AI c,By Al mm capl]) (bH [(0,AI r),(1,AI c),(2,By Al mm capl)] ⟨rfl,rfl,rfl,Ht⟩ (sr (bx [By Al mm capl] aB G G G fun g1 _ U _ _ bh=>(dG [I0,I0,S0] bh U.lt (fun _=>by kernel_rfl) G fun g6 _ ak aj _ e8 az=>(mv 1 G (aE (aH (sr (mv 1 G (cl (vs:= [AI r]) az (nS ⟨by omega,by omega⟩) G (by kernel_rfl) fun _ _ bi H aw=>?_))))))))))
 obtain rfl:=bi
 refine pu (v:= Hs) G (mv 2 G (cl (vs:= [AI c]) aw (nS ⟨by omega,by omega⟩) G (by kernel_rfl) fun _ ag au o J=>?_))
 obtain rfl:=au
 refine pu (v:= Hs) G (pu (v:= Hs) G (aE (aY G (bA (aM (aH (sr (aK G G (aQ cD (U.ext (e8.t (H.t o))) G) (pu (v:= AI mm) G (mv 2 G (AP G G G (((min r c:Nat):Int)) (by omega) (by decide) (aN G G G false (mM (a:=mm) (b:=min r c) G G) (aS ?_)))))))))))))
 refine aM (aY G (bA (aM (sr (mv 2 G (pu (v:= .func (.func 74) #[] #[a9 g1 0]) G ?_))))))
 obtain⟨_,ai,_,ae,_,_⟩:∃lb,lb≤ag.heap.size∧ag.heap.size≤lb∧w.heap.size≤lb∧g1<lb∧g6<lb:=⟨ag.heap.size,aI _,aI _,J.size,(U.ext (e8.t (H.t o))).lt,(ak.ext (H.t o)).lt⟩
 refine cl (vs:= [AI r,AI c,.func (.func 74) #[] #[a9 g1 0]]) J (E0 (f:=jN (fun k=>zs.getD k 0)) (cs:= [a9 g1 0]) (K:=17179869184) J.size ai hr hc (enters_of Tryz.func74 (by kernel_rfl) G) (fun i j _ _=>by unfold jN;split;(· exact aa.ln _);(· exact bX _)) (fun i j w' hi hj x=>(NI x.size hmm hi hj ((aa.ext J).ext x) ((U.ext (e8.t (H.t o))).ext x)))) G (by kernel_rfl) fun _ _ ba bj bo=>?_
 obtain⟨_,rfl,⟨h,I,_,rfl,ab,aq⟩⟩:=ba
 have ah:=ab.block
 have ac:=(ak.ext (H.t (o.t bj)))
 refine so bS ac [AI r,AI c,By h (r*c) I] bo aj G G G G fun _ ao bc av=>(mv 1 G (aE (bG (bF [.agg #[AI r,AI c,By h (r*c) I],I0] G ⟨⟨_,rfl,bY bS ao [AI r,AI c,By h (r*c) I] G (bq G) rfl⟩,rfl,Ht⟩ ?_))))
 exact⟨_,rfl,⟨_,_,rfl,⟨_,rfl,⟨_,_,_,rfl,((ab.updT ac bc (show∀p:a6,h=some p→p.block≠g6 from fun p hp=>by have:=ah p hp;omega))).mono (aI _) hb (a7 hlb ae),aq⟩⟩,rfl⟩,av⟩
theorem Lz.neM {m:Option a0}{cap:Nat}(h:Lz m K b w lb A n cap zs)(hb:Bk w g 24 vs):∀p:a6,A=some p→p.block≠g:=fun p o e=>by
 obtain⟨us,H⟩:=h.own
 exact absurd (H.type o e hb) (by decide)
theorem Q3 {f g:Nat→Int}(hi:i<m)(hj:j<m)(h:∀a,a<m→f a=g a):∀a,a<m→fS f i j a=fS g i j a:=fun a o=>by
 unfold fS
 rw [h i hi,h j hj,h a o]
theorem F3 {f g:Nat→Int}{m i:Nat}(hi:i<m)(h:∀a,a<m→f a=g a):∀t,i+t<m→∀a,a<m→gN f i t a=gN g i t a
 | 0,_=>h
 | t+1,ht=>Q3 hi (by omega) (F3 hi h t (by omega))
theorem yN {f g:Nat→Int}{m:Nat}(h:∀a,a<m→f a=g a):∀i,i≤m→∀a,a<m→i8 f m i a=i8 g m i a
 | 0,_=>h
 | i+1,hi=>F3 (by omega) (yN h i (by omega)) (m-(i+1)) (by omega)
theorem DW (hxa:ZF w Aa na capa 17179869184 xs)(hna:na=n*cc)(hn:n≤64)(hcc:cc≤64)(hX:En n cc X xs){b:Bool}(hb:b=true↔eP n cc X):aR aJ 55 #[.agg #[AI n,AI cc,By Aa na capa]] w (Gv w (Is (.bool b))):=by
 refine (N4 hxa hna hn hcc hX).mono (Gv.imp fun v w' h=>?_)
 obtain⟨b',rfl,o⟩:=h
 have:b'=b:=by
  cases b <;> cases b'
  ·rfl
  ·exact absurd (hb.2 (o.1 G)) (by decide)
  ·exact absurd (o.2 (hb.1 G)) (by decide)
  ·rfl
 rw [this];rfl
section
variable {n c r k:Nat}{X:Mx}{D:Int}
theorem Sni.dg (h:Sni n c X D r k)(hd:eP n c (cI n c X k))(ha:a<r):ldr (sB n c k) (cS n c X k a)=a∧0<cS n c X k a a:=by
 have I:=xQ.1 hd
 have H:=h.hf.pos a ha
 have hl:=h.hf.lt a ha
 have e:ldr (sB n c k) (cS n c X k a)=a:=by
  refine Decidable.not_not.1 fun o=>?_
  have:=I a _ (cJ ha h.rn) hl fun q=>o q.symm
  omega
 rw [e] at H
 exact⟨e,H⟩
theorem Sni.rle (h:Sni n c X D r k)(hd:eP n c (cI n c X k)):r≤min n c:=by
 have o:r≤sA n c k:=h.rn
 have I:r≤sB n c k:=by
  refine Nat.le_of_not_lt fun H=>?_
  have U:=h.hf.lt _ H
  have J:=(h.dg hd H).1
  omega
 rcases Nat.mod_two_eq_zero_or_one k with e | e
 ·rw [qE e] at o;rw [qC e] at I;omega
 ·rw [qD e] at o;rw [qB e] at I;omega
theorem Sni.dz (h:Sni n c X D r k)(ha:r≤a)(hm:a<min n c):cS n c X k a a=0:=by
 refine h.zb a ha ?_ a ?_
 ·unfold sA;split <;> omega
 ·unfold sB;split <;> omega
theorem Sni.dg0 (h:Sni n c X D r k)(hd:eP n c (cI n c X k)):∀a,a<min n c→0≤cI n c X k a a:=fun a H=>by
 rw [qI]
 rcases Nat.lt_or_ge a r with o | o
 ·have:=(h.dg hd o).2;omega
 ·rw [h.dz o H];exact Int.le_refl 0
theorem CG {f : Nat → Int}: ∀ m, (∀ a, a < r → 0 < f a) → (∀ a, r ≤ a → a < m → f a = 0) → r ≤ m → (pd m fun a => nz (f a)) = pd r f
  | 0, _, _, h => by obtain rfl : r = 0 := by omega
                     rfl
  | m + 1, H, I, _ => by
    by_cases e : r = m + 1
    · subst e; exact kN _ fun a o => by have := H a o; unfold nz; rw [if_neg (by omega)]
    · rw [pd, CG m H (fun a o _ => I a o (by omega)) (by omega), I m (by omega) (by omega)]
      exact Int.mul_one _
theorem Rnd.dgP (h:Rnd n c X D r k)(hd:eP n c (cI n c X k))(hm:m=min n c):ln (pd m fun a=>nz (cI n c X k a a))≤136323396:=by
 subst hm
 have hr:=h.toSni.rle hd
 rw [CG (r:=r) _ (fun a o=>by rw [qI];exact (h.toSni.dg hd o).2) (fun a o hm=>by rw [qI];exact h.toSni.dz o hm) hr]
 have e:(pd r fun a=>cI n c X k a a)=pd r fun i=>cS n c X k i (ldr (sB n c k) (cS n c X k i)):=kN r fun i hi=>by rw [qI,(h.toSni.dg hd hi).1]
 rw [e]
 exact nK h.dv (by have:=h.D0;omega) h.Dl
def Smf (n c m:Nat)(X:Mx)(ys:List Int):Prop:=∃D r k,eP n c (cI n c X k)∧Rnd n c X D r k∧En n c (jN (i8 (fun a=>cI n c X k a a) m m)) ys
theorem II (hm:m=min n c)(h:Rnd n c X D r k)(hd:eP n c (cI n c X k))(hc:∀a,a<m→cs.getD a 0=i8 (fun a=>cI n c X k a a) m m a)(hE:En n c (jN fun k=>cs.getD k 0) ys):Smf n c m X ys:=
 ⟨D,r,k,hd,h,En.cong (fun i j hi hj=>by
  unfold jN
  by_cases e:i=j
  ·rw [if_pos e,if_pos e];exact hc i (by omega)
  ·rw [if_neg e,if_neg e]) _ hE⟩
end
theorem NC (hb:b≤w.heap.size)(hlb:lb≤w.heap.size){mm:Nat}(hmm:mm=min n cc)(hxa:ZF w Aa na capa 1048576 xs)(hna:na=n*cc)(hn:n≤64)(hcc:cc≤64)(hX:En n cc X xs)(hXa:∀a b,a<n→b<cc→ln (X a b)≤1048576):aR aJ 36 #[.agg #[AI n,AI cc,By Aa na capa]] w (Gv w (T2 (MQ ((n:Nat):Int) ((cc:Nat):Int) (LQ none 17179869184 b lb (n*cc) (Smf n cc mm X))) (Is (AI 0)))):=by
 have mj:=hxa
 obtain⟨msa,ma,kx⟩:=hxa
 refine bQ Tryz.func36 G (n:=39) G (bq G) (args:= [.agg #[AI n,AI cc,By Aa na capa]]) (bH [(0,.agg #[AI n,AI cc,By Aa na capa])] ⟨rfl,Ht⟩ (sr (bx [AI n,AI cc,By Aa na capa] aB G G G fun g1 _ dq _ _ dl=>(dG [I0,I0,S0] dl dq.lt (fun _=>by kernel_rfl) G fun g6 v7 fg ig _ e8 H=>(mv 1 G (aE (sr (lo bS (dq.ext e8) [AI n,AI cc,By Aa na capa] G G G ?_))))))))
 obtain⟨_,fr,_,gw,_,_⟩:∃lb,lb≤v7.heap.size∧v7.heap.size≤lb∧w.heap.size≤lb∧g1<lb∧g6<lb:=⟨v7.heap.size,aI _,aI _,H.size,(dq.ext e8).lt,fg.lt⟩
 refine cl (vs:= [.agg #[AI n,AI cc,By Aa na capa]]) H (xZ (X:=X) H.size fr (((show ZF w _ _ _ _ _ from⟨msa,ma,kx⟩).ext H).mono (by decide)) hna hn hcc hX (B7 hn hXa) (by decide) (by decide)) G (by kernel_rfl) fun _ _ lw fq J=>?_
 obtain⟨_,_,rfl,⟨_,rfl,⟨I,U,je,rfl,eh,jk⟩⟩,r16_1⟩:=lw
 have co:=eh.block
 obtain rfl:=r16_1
 refine mv 1 G (pu (v:= .agg #[AI n,AI cc,By I (n*cc) U]) G (pu (v:= AI 0) G (dG [I0,I0,S0] J (fg.ext fq).lt (fun _=>by kernel_rfl) G fun au _ dy cd _ fh ab=>(so bS dy [AI n,AI cc,By I (n*cc) U] ab cd G G G G fun kw eg ey iu=>(mv 1 G (aE (aH (sr (mv 1 G (aN G G G false (by decide) (aE (aY G (bA ?_)))))))))))))
 refine aM (aH (sr (mv 1 G (aE (bB ?_)))))
 obtain⟨_,_,ky,ko⟩:=jk
 obtain⟨D,r,lm,lf⟩:=Rnd.start hn hXa ky
 have lj:=En.cong lf _ ko
 have ew:=Lz.mono (b':=0) (lb':=w.heap.size) (((eh.ext fh).updY dy ey)) (aI _) (bX _) gw
 have im:=Lz.neM ew eg
 refine d6 (T:=a0×Nat×Bool×Option a6×Nat×List Int) (fun⟨wr,k,bk,LA,lc,zs⟩=> [(0,.agg #[AI n,AI cc,By Aa na capa]),(1,a9 g1 0),(2,a9 g6 0),(3,AI 0),(4,a9 au 0),(5,AI 0),(6,.bool bk),(7,.tuple #[.agg #[AI n,AI cc,By I (n*cc) U],I0]),(8,.agg #[AI n,AI cc,By Aa na capa]),(9,.tuple #[.agg #[AI n,AI cc,By I (n*cc) U],I0]),(10,.agg #[AI n,AI cc,By I (n*cc) U]),(11,AI 0),(12,AI 0),(13,Hs)]) (fun⟨wr,k,bk,LA,lc,zs⟩=>wr) (fun⟨wr,k,bk,LA,lc,zs⟩=>(Ext w wr)∧(k≤k)∧(Bk wr g1 24 [AI n,AI cc,By Aa na capa])∧(Bk wr g6 24 [I0,I0,S0])∧(Bk wr au 24 [AI n,AI cc,By LA (n*cc) lc])∧(w.heap.size≤wr.heap.size)∧(Lz none 17179869184 0 wr w.heap.size LA (n*cc) lc zs)∧(∀p:a6,LA=some p→p.block≠g1)∧(∀p:a6,LA=some p→p.block≠g6)∧(∀p:a6,LA=some p→p.block≠au)∧(bk=decide (k%2=1))∧(Rnd n cc X D r k)∧(En n cc (cI n cc X k) zs)) (fun⟨wr,k,bk,LA,lc,zs⟩=>jJ n cc X D r k)
  (⟨kw,0,false,I,U,je⟩:a0×Nat×Bool×Option a6×Nat×List Int) ⟨iu,(by omega),((dq.ext (e8.t (fq.t fh))).vN ey),((fg.ext (fq.t fh)).vN ey),eg,iu.size,ew,(show∀p:a6,I=some p→p.block≠g1 from fun p hp=>by have:=co p hp;omega),(show∀p:a6,I=some p→p.block≠g6 from fun p hp=>by have:=co p hp;omega),im,rfl,lm,lj⟩ G ⟨rfl,rfl,rfl,rfl,rfl,rfl,rfl,rfl,rfl,rfl,rfl,rfl,rfl,rfl,Ht⟩ ?_
 rintro⟨wr,k,bk,LA,lc,zs⟩ ⟨dl,_,b_g1,b_g6,b_g20,l_LAb,l_LA,l_LA_g1,l_LA_g6,l_LA_g20,jr,hS,hE⟩
 refine d4 [(0,.agg #[AI n,AI cc,By Aa na capa]),(1,a9 g1 0),(2,a9 g6 0),(3,AI 0),(4,a9 au 0),(5,AI 0),(6,.bool bk),(7,.tuple #[.agg #[AI n,AI cc,By I (n*cc) U],I0]),(8,.agg #[AI n,AI cc,By Aa na capa]),(9,.tuple #[.agg #[AI n,AI cc,By I (n*cc) U],I0]),(10,.agg #[AI n,AI cc,By I (n*cc) U]),(11,AI 0),(12,AI 0),(13,Hs)] wr G ⟨rfl,rfl,rfl,rfl,rfl,rfl,rfl,rfl,rfl,rfl,rfl,rfl,rfl,rfl,Ht⟩ ?_
 have mg:=l_LA.block
 refine aH (aH ?_)
 by_cases hd:eP n cc (cI n cc X k)
 ·refine aL (lo bS b_g20 [AI n,AI cc,By LA (n*cc) lc] G G G (cl (vs:= [.agg #[AI n,AI cc,By LA (n*cc) lc]]) dl (DW (b:=true) (l_LA.zf0) G hn hcc hE ⟨fun _=>hd,fun _=>rfl⟩) G (by kernel_rfl) fun _ ie kt aq H=>?_))
  obtain rfl:=kt
  refine pu (v:= Hs) G (aE (aY G (cM (cK (cT (cL (aM (aH ?_))))))))
  obtain⟨av,bh,bz,gg,_,_,_⟩:∃lb,lb≤ie.heap.size∧ie.heap.size≤lb∧w.heap.size≤lb∧g1<lb∧g6<lb∧au<lb:=⟨ie.heap.size,aI _,aI _,H.size,(b_g1.ext aq).lt,(b_g6.ext aq).lt,(b_g20.ext aq).lt⟩
  have kq:∀p:a6,LA=some p→p.block<av:=fun p hp=>cJ (((l_LA.ext aq)).block p hp).2 bz
  refine dP cF 10 [8,9] [Is (a9 g1 0),Is (AI n),Is (a9 g1 1),Is (AI cc),Is (.agg #[AI n,AI cc,By LA (n*cc) lc]),LQ none 17179869184 w.heap.size av mm (fun zs=>∀a,a<mm→zs.getD a 0=cI n cc X k a a),LQ none 17179869184 w.heap.size av mm (fun cs=>∀a,a<mm→cs.getD a 0=i8 (fun a=>cI n cc X k a a) mm mm a),T2 (MQ ((n:Nat):Int) ((cc:Nat):Int) (LQ none 17179869184 w.heap.size av (n*cc) (Smf n cc mm X))) (Is (AI 0)),MQ ((n:Nat):Int) ((cc:Nat):Int) (LQ none 17179869184 w.heap.size av (n*cc) (Smf n cc mm X)),Is (AI 0)] [[],[0],[],[2],[],[4],[5],[1,3,6],[7],[7]] [[],[0],[],[2],[],[4],[4,5],[0,1,2,3,4,5,6],[0,1,2,3,4,5,6,7],[0,1,2,3,4,5,6,7],[0,1,2,3,4,5,6,7,8,9],[0,1,2,3,4,5,6,7,8,9,10]] rfl
   (aD G G (aA G G ?_) (aD G G (aA G G ?_) (aD G G (aA G G ?_) (aD G G (aA G G ?_) (aD G G (aA G G ?_) (aD G G (aA G G ?_) (aD G G (aA G G ?_) (aD G G (aA G G ?_) (gH G G (gM G ?_) (gH G G (gM G ?_) dF)))))))))) ?_
  ·exact fun _ _=>a8 (pf g1 0 G (aC G aB G))
  ·exact fun _ kv=>dk G G (a8 (aK G G (aQ bV (b_g1.ext (aq.t kv)) G) (aC G aB G)))
  ·exact fun _ _=>a8 (pf g1 1 G (aC G aB G))
  ·exact fun _ ku=>dk G G (a8 (aK G G (aQ bV (b_g1.ext (aq.t ku)) G) (aC G aB G)))
  ·exact fun _ ks=>a8 (lo bS (b_g20.ext (aq.t ks)) [AI n,AI cc,By LA (n*cc) lc] G G G (aC G aB G))
  ·intro _ gc
   have J:=H.trans gc
   refine dk G G (a8 (cl (vs:= [.agg #[AI n,AI cc,By LA (n*cc) lc]]) J (DV J.size (a7 bh gc.size) hmm ((l_LA.ext (aq.t gc)).zf0) G hn hcc hE) G (by kernel_rfl) fun _ _ mf li ab=>?_))
   obtain⟨_,_,_,rfl,em,il⟩:=mf
   have mc:=em.block
   exact aC G li ⟨_,_,_,rfl,em,il⟩
  ·intro _ jv
   have J:=H.trans jv
   refine aT G G fun _ _ me _ lh=>?_
   obtain⟨iz,ik,_,rfl,bu,cj⟩:=me
   have kj:=bu.block
   have bu:=bu.ext lh
   refine a8 (cl (vs:= [By iz mm ik]) J ((NE J.size (a7 bh jv.size) (bu.zf0) (by omega) (fun k hk=>by rw [cj k hk];exact hS.toSni.dg0 hd k (by omega)) (by rw [kN mm fun k hk=>by rw [cj k hk]];exact hS.dgP hd hmm)).mono (Gv.imp (LQ.imp (q:=fun cs=>∀a,a<mm→cs.getD a 0=i8 (fun a=>cI n cc X k a a) mm mm a) (aI _) (aI _) (aI _) (fun cs hc a ha=>(hc a ha).trans (yN cj mm (aI mm) a ha))))) G (by kernel_rfl) fun _ _ mb ll ab=>?_)
   obtain⟨_,_,_,rfl,ee,iv⟩:=mb
   have lu:=ee.block
   exact aC G ll ⟨_,_,_,rfl,ee,iv⟩
  ·intro _ ix
   have J:=H.trans ix
   refine dk G G (dk G G (aT G G fun _ _ io _ jl=>?_))
   obtain⟨fo,fx,_,rfl,aj,gx⟩:=io
   have jz:=aj.block
   have aj:=aj.ext jl
   refine a8 (cl (vs:= [AI n,AI cc,By fo mm fx]) J ((NJ J.size (a7 bh ix.size) hmm hn hcc (aj.zf0)).mono (Gv.imp (T2.imp (MQ.imp (LQ.imp (q:=Smf n cc mm X) (aI _) (aI _) (aI _) (fun ys hy=>II hmm hS hd gx hy))) Is.imp))) G (by kernel_rfl) fun _ _ ja ip ab=>?_)
   obtain⟨_,_,rfl,⟨_,rfl,⟨_,_,_,rfl,cg,ft⟩⟩,r117_1⟩:=ja
   have kg:=cg.block
   obtain rfl:=r117_1
   exact aC G ip ⟨_,_,rfl,⟨_,rfl,⟨_,_,_,rfl,cg,ft⟩⟩,rfl⟩
  ·intro _ _
   refine aT G G fun _ _ jt _ iq=>?_
   obtain⟨_,_,rfl,⟨_,rfl,⟨gy,gk,_,rfl,ar,fa⟩⟩,r128_1⟩:=jt
   have kc:=ar.block
   obtain rfl:=r128_1
   have ar:=ar.ext iq
   refine a8 ?_
   exact⟨.agg #[AI n,AI cc,By gy (n*cc) gk],rfl,rfl,fun _=>by kernel_rfl,⟨_,rfl,⟨_,_,_,rfl,ar,fa⟩⟩⟩
  ·intro _ _
   refine aT G G fun _ _ jg _ jd=>?_
   obtain⟨_,_,rfl,⟨_,rfl,⟨_,_,_,rfl,ba,_⟩⟩,r139_1⟩:=jg
   have kd:=ba.block
   obtain rfl:=r139_1
   have ba:=ba.ext jd
   refine a8 ?_
   exact⟨AI 0,rfl,rfl,fun _=>by kernel_rfl,rfl⟩
  ·intro _ ep
   have J:=H.trans ep
   refine dk G G (dk G G (dk G G (dk G G (dk G G (aT G G fun _ _ iy _ ii=>?_)))))
   obtain⟨_,_,_,rfl,bj,_⟩:=iy
   have jy:=bj.block
   have bj:=bj.ext ii
   refine aT G G fun _ _ jj _ jp=>?_
   obtain⟨_,_,_,rfl,az,_⟩:=jj
   have kb:=az.block
   have az:=az.ext jp
   refine aT G G fun _ _ ij _ ir=>?_
   obtain⟨_,_,rfl,⟨_,rfl,⟨_,_,_,rfl,bi,_⟩⟩,r189_1⟩:=ij
   have jx:=bi.block
   obtain rfl:=r189_1
   have bi:=bi.ext ir
   refine aT G G fun _ _ jn _ jh=>?_
   obtain⟨_,rfl,⟨bo,bc,_,rfl,ak,gj⟩⟩:=jn
   have ke:=ak.block
   have ak:=ak.ext jh
   refine dk G G (a8 ?_)
   have dc:=(b_g6.ext (aq.t ep))
   refine so bS dc [AI n,AI cc,By bo (n*cc) bc] J ig G G G G fun _ fk jq ab=>(mv 1 G (aS (dA (aM (bG (bF [.agg #[AI n,AI cc,By bo (n*cc) bc],I0] G ⟨⟨_,rfl,bY bS fk [AI n,AI cc,By bo (n*cc) bc] G (bq G) rfl⟩,rfl,Ht⟩ ?_))))))
   exact⟨_,rfl,⟨_,_,rfl,⟨_,rfl,⟨_,_,_,rfl,((ak.updY dc jq)).mono (aI _) hb (a7 hlb gg),gj⟩⟩,rfl⟩,ab⟩
 ·refine aL (lo bS b_g20 [AI n,AI cc,By LA (n*cc) lc] G G G (cl (vs:= [.agg #[AI n,AI cc,By LA (n*cc) lc]]) dl (DW (b:=false) (l_LA.zf0) G hn hcc hE ⟨fun h=>(by cases h),fun h=>absurd h hd⟩) G (by kernel_rfl) fun _ ah jb o H=>?_))
  obtain rfl:=jb
  refine pu (v:= BY) G (aE (bJ G (bA (aM (aH (bB (aH ?_)))))))
  cases bk
  ·have ae:k%2=0:=by have:=of_decide_eq_false jr.symm;omega
   refine aL (mv 1 G (aE (aY G (aL (lo bS (b_g20.ext o) [AI n,AI cc,By LA (n*cc) lc] G G G ?_)))))
   obtain⟨fe,dn,bv,du,_,_,_⟩:∃lb,lb≤ah.heap.size∧ah.heap.size≤lb∧w.heap.size≤lb∧g1<lb∧g6<lb∧au<lb:=⟨ah.heap.size,aI _,aI _,H.size,(b_g1.ext o).lt,(b_g6.ext o).lt,(b_g20.ext o).lt⟩
   have jw:∀p:a6,LA=some p→p.block<fe:=fun p hp=>cJ (((l_LA.ext o)).block p hp).2 bv
   refine cl (vs:= [.agg #[AI n,AI cc,By LA (n*cc) lc]]) H (N0 (X:=cI n cc X k) H.size dn ((l_LA.ext o).zf0) G hn hcc hE (hS.szr_e ae) (by decide) (by decide)) G (by kernel_rfl) fun _ _ jo cm J=>?_
   obtain⟨_,rfl,⟨ac,da,gn,rfl,dd,fd⟩⟩:=jo
   have ai:=dd.block
   have cf:=(b_g20.ext (o.t cm))
   refine so bS cf [AI n,AI cc,By ac (n*cc) da] J cd G G G G fun jm fy cx ab=>(aS (cC (aM (aL (mv 1 G (pu (v:= BY) G (mv 1 G (aS ?_))))))))
   obtain⟨d5,Y5,cz,fb⟩:=fd
   have hN:=hS.even ae hd cz
   have ge:=En.cong (C5 ae cz).2 _ fb
   have kk:=hN.2
   have ia:=Lz.mono (b':=0) (lb':=w.heap.size) ((dd.updY cf cx)) (aI _) (bX _) du
   refine cB (⟨jm,k+1,true,ac,da,gn⟩:a0×Nat×Bool×Option a6×Nat×List Int) ⟨ab,(by omega),((b_g1.ext (o.t cm)).vN cx),((b_g6.ext (o.t cm)).vN cx),fy,ab.size,ia,(show∀p:a6,ac=some p→p.block≠g1 from fun p hp=>by have:=ai p hp;omega),(show∀p:a6,ac=some p→p.block≠g6 from fun p hp=>by have:=ai p hp;omega),(show∀p:a6,ac=some p→p.block≠au from fun p hp=>by have:=ai p hp;omega),(decide_eq_true (by omega)).symm,hN.1,ge⟩ (show jJ n cc X D r (k+1)<jJ n cc X D r k by omega) G ⟨rfl,rfl,rfl,rfl,rfl,rfl,rfl,rfl,rfl,rfl,rfl,rfl,rfl,rfl,Ht⟩
  ·have ae:k%2=1:=by have:=of_decide_eq_true jr.symm;omega
   refine aL (mv 1 G (aE (bJ G (aL (lo bS (b_g20.ext o) [AI n,AI cc,By LA (n*cc) lc] G G G ?_)))))
   obtain⟨ib,dm,bw,dw,_,_,_⟩:∃lb,lb≤ah.heap.size∧ah.heap.size≤lb∧w.heap.size≤lb∧g1<lb∧g6<lb∧au<lb:=⟨ah.heap.size,aI _,aI _,H.size,(b_g1.ext o).lt,(b_g6.ext o).lt,(b_g20.ext o).lt⟩
   have ka:∀p:a6,LA=some p→p.block<ib:=fun p hp=>cJ (((l_LA.ext o)).block p hp).2 bw
   refine cl (vs:= [.agg #[AI n,AI cc,By LA (n*cc) lc]]) H (xZ (X:=cI n cc X k) H.size dm ((l_LA.ext o).zf0) G hn hcc hE (hS.szr_o ae) (by decide) (by decide)) G (by kernel_rfl) fun _ _ jf df J=>?_
   obtain⟨_,_,rfl,⟨_,rfl,⟨aa,aw,fj,rfl,cu,gt⟩⟩,r233_1⟩:=jf
   have ao:=cu.block
   obtain rfl:=r233_1
   refine mv 1 G (pu (v:= .agg #[AI n,AI cc,By aa (n*cc) aw]) G (pu (v:= AI 0) G ?_))
   have ce:=(b_g20.ext (o.t df))
   refine so bS ce [AI n,AI cc,By aa (n*cc) aw] J cd G G G G fun iw ez dh ab=>(aS (cC (aM (aL (mv 1 G (pu (v:= Hs) G (mv 1 G (aS ?_))))))))
   obtain⟨d5,Y5,cz,fb⟩:=gt
   have hN:=hS.odd ae hd cz
   have ge:=En.cong (C4 ae cz).2 _ fb
   have kk:=hN.2
   have fv:=Lz.mono (b':=0) (lb':=w.heap.size) ((cu.updY ce dh)) (aI _) (bX _) dw
   refine cB (⟨iw,k+1,false,aa,aw,fj⟩:a0×Nat×Bool×Option a6×Nat×List Int) ⟨ab,(by omega),((b_g1.ext (o.t df)).vN dh),((b_g6.ext (o.t df)).vN dh),ez,ab.size,fv,(show∀p:a6,aa=some p→p.block≠g1 from fun p hp=>by have:=ao p hp;omega),(show∀p:a6,aa=some p→p.block≠g6 from fun p hp=>by have:=ao p hp;omega),(show∀p:a6,aa=some p→p.block≠au from fun p hp=>by have:=ao p hp;omega),(decide_eq_false (by omega)).symm,hN.1,ge⟩ (show jJ n cc X D r (k+1)<jJ n cc X D r k by omega) G ⟨rfl,rfl,rfl,rfl,rfl,rfl,rfl,rfl,rfl,rfl,rfl,rfl,rfl,rfl,Ht⟩
end
section
open Go.RowKit
open Classical in
noncomputable def aV (n c m:Nat)(X:Mx):Nat→Int:=if h:∃k,eP n c (cI n c X k)∧∀j,j<k→¬eP n c (cI n c X j) then i8 (fun a=>cI n c X (jB h) a a) m m else fun _=>0
structure Fc (n c m:Nat)(X:Mx)(v:Nat→Int):Prop where
 nn:∀a,a<m→0≤v a
 ch:∀l k,l<k→k<m→v l∣v k
 pl:ln (pd m fun a=>nz (v a))≤136323396
 dx:n=c→(pd m v).natAbs=(dt n X).natAbs
theorem Smf.fac_eq (h:Smf n c m X ys):En n c (jN (aV n c m X)) ys:=by
 obtain⟨D,r,k,I,J,U⟩:=h
 have H:∃k,eP n c (cI n c X k)∧∀j,j<k→¬eP n c (cI n c X j):=⟨k,I,J.no⟩
 have e:jB H=k:=by
  obtain⟨h1,h2⟩:=lX H
  generalize jB H=q at*
  rcases Nat.lt_trichotomy q k with o | o | o
  ·exact absurd h1 (J.no q o)
  ·exact o
  ·exact absurd I (h2 k o)
 unfold aV
 rw [dif_pos H,e]
 exact U
theorem Smf.fc (hm:m=min n c)(h:Smf n c m X ys):Fc n c m X (aV n c m X):=by
 obtain⟨D,r,k,H,I,_⟩:=h
 have U:∃k,eP n c (cI n c X k)∧∀j,j<k→¬eP n c (cI n c X j):=⟨k,H,I.no⟩
 have e:jB U=k:=by
  obtain⟨J,h2⟩:=lX U
  generalize jB U=q at*
  rcases Nat.lt_trichotomy q k with o | o | o
  ·exact absurd J (I.no q o)
  ·exact o
  ·exact absurd H (h2 k o)
 unfold aV
 rw [dif_pos U,e]
 obtain⟨J,h2⟩:=u9 (m:=m) (f:=fun a=>cI n c X k a a) (fun a ha=>I.toSni.dg0 H a (by omega)) m (aI m)
 refine⟨J.nn,fun l k ac hk=>h2 l k (by omega) ac hk,by rw [J.pn];exact I.dgP H hm,fun ec=>?_⟩
 subst ec
 have ab:m=n:=by omega
 subst ab
 rw [J.pr,←I.dx rfl,tU m (cS m m X k) fun i j _ hi=>?_]
 ·rw [kN m fun a ha=>qI]
 ·have o:=xQ.1 H
  have ea:sA m m k=m:=by unfold sA;split <;> rfl
  have eb:sB m m k=m:=by unfold sB;split <;> rfl
  rw [ea,eb] at o
  exact o i j hi (by omega) (by omega)
end
section
open Go.RowKit
theorem DX (hb:b≤w.heap.size)(hlb:lb≤w.heap.size){mm:Nat}(hmm:mm=min n cc)(hxa:ZF w Aa na capa 1048576 xs)(hna:na=n*cc)(hn:n≤64)(hcc:cc≤64)(hX:En n cc X xs)(hXa:∀a b,a<n→b<cc→ln (X a b)≤1048576):aR aJ 13 #[.agg #[AI n,AI cc,By Aa na capa]] w (Gv w (T2 (LQ none 17179869184 b lb mm (fun zs=>Fc n cc mm X (aV n cc mm X)∧∀a,a<mm→zs.getD a 0=aV n cc mm X a)) (Is (AI 0)))):=by
 have ce:=hxa
 obtain⟨msa,bv,bh⟩:=hxa
 refine bQ Tryz.func13 G (n:=16) G (bq G) (args:= [.agg #[AI n,AI cc,By Aa na capa]]) (bH [(0,.agg #[AI n,AI cc,By Aa na capa])] ⟨rfl,Ht⟩ (sr (bx [AI n,AI cc,By Aa na capa] aB G G G fun g1 v2 ab _ _ aa=>(mv 2 G (aE (sr (lo bS ab [AI n,AI cc,By Aa na capa] G G G ?_)))))))
 obtain⟨_,aw,_,_,_⟩:∃lb,lb≤v2.heap.size∧v2.heap.size≤lb∧w.heap.size≤lb∧g1<lb:=⟨v2.heap.size,aI _,aI _,aa.size,ab.lt⟩
 refine cl (vs:= [.agg #[AI n,AI cc,By Aa na capa]]) aa (NC (X:=X) aa.size aw hmm ((show ZF w _ _ _ _ _ from⟨msa,bv,bh⟩).ext aa) hna hn hcc hX hXa) G (by kernel_rfl) fun _ _ r9 e8 bg=>?_
 obtain⟨_,_,rfl,⟨_,rfl,⟨o,H,_,rfl,U,ae⟩⟩,r10_1⟩:=r9
 have bi:=U.block
 obtain rfl:=r10_1
 refine mv 1 G (pu (v:= .agg #[AI n,AI cc,By o (n*cc) H]) G (pu (v:= AI 0) G (dG [I0,I0,S0] bg (ab.ext e8).lt (fun _=>by kernel_rfl) G fun cd _ I au _ aj bc=>(so bS I [AI n,AI cc,By o (n*cc) H] bc au G G G G fun ak ac aq ai=>(mv 1 G (aE (aH (sr (mv 1 G (aN G G G false (by decide) (aE (aY G (bA ?_)))))))))))))
 refine aM (sr (lo bS ac [AI n,AI cc,By o (n*cc) H] G G G ?_))
 obtain⟨ar,ao,J,ah,_,_⟩:∃lb,lb≤ak.heap.size∧ak.heap.size≤lb∧w.heap.size≤lb∧g1<lb∧cd<lb:=⟨ak.heap.size,aI _,aI _,ai.size,((ab.ext (e8.t aj)).vN aq).lt,ac.lt⟩
 have bj:∀p:a6,o=some p→p.block<ar:=fun p hp=>cJ ((((U.ext aj).updY I aq)).block p hp).2 J
 refine cl (vs:= [.agg #[AI n,AI cc,By o (n*cc) H]]) ai ((DV ai.size ao hmm (((U.ext aj).updY I aq).zf0) G hn hcc (ae).fac_eq).mono (Gv.imp (LQ.imp (q:=fun zs=>Fc n cc mm X (aV n cc mm X)∧∀a,a<mm→zs.getD a 0=aV n cc mm X a) (aI _) (aI _) (aI _) (fun zs h=>⟨(ae).fc hmm,fun a ha=>(h a ha).trans (if_pos G)⟩)))) G (by kernel_rfl) fun _ _ bw _ bz=>?_
 obtain⟨az,av,_,rfl,ag,ba⟩:=bw
 have bo:=ag.block
 refine mv 2 G (aE (bG (bF [By az mm av,I0] G ⟨rfl,rfl,Ht⟩ ?_)))
 exact⟨_,rfl,⟨_,_,rfl,⟨_,_,_,rfl,(ag).mono (aI _) hb (a7 hlb ah),ba⟩,rfl⟩,bz⟩
theorem OB (hs:¬j3 R C na):aR aJ 9 #[.agg #[AI R,AI C,By Aa na capa]] w (Gv w (T2 (Is (.agg #[AI 0,AI 0,By none 0 0])) (Is (AI 1)))):=by
 refine bQ Tryz.func9 G (n:=23) G (bq G) (args:= [.agg #[AI R,AI C,By Aa na capa]]) (bH [(0,.agg #[AI R,AI C,By Aa na capa])] ⟨rfl,Ht⟩ (sr (bx [AI R,AI C,By Aa na capa] aB G G G fun _ _ I _ _ U=>(dG [I0,I0,S0] U I.lt (fun _=>by kernel_rfl) G fun _ _ ae h _ e8 ab=>(mv 1 G (aE (aH (sr (lo bS (I.ext e8) [AI R,AI C,By Aa na capa] G G G (cl (vs:= [.agg #[AI R,AI C,By Aa na capa]]) ab (NK hs) G (by kernel_rfl) fun _ _ ac ag aa=>?_))))))))))
 obtain rfl:=ac
 refine mv 1 G (aE (sr (mv 1 G (aN G G G true (by decide) (aE (bJ G (sr (pu (v:= .agg #[I0,I0,S0]) G (mv 1 G ?_)))))))))
 have H:=(ae.ext ag)
 refine so bS H [I0,I0,S0] aa h G G G G fun _ o _ J=>(mv 1 G (aE (bG (dZ (bF [.agg #[I0,I0,S0],AI 1] G ⟨⟨_,rfl,bY bS o [I0,I0,S0] G (bq G) rfl⟩,rfl,Ht⟩ ?_)))))
 exact⟨_,rfl,⟨_,_,rfl,rfl,rfl⟩,J⟩
theorem NB (hs:¬j3 R C na):aR aJ 36 #[.agg #[AI R,AI C,By Aa na capa]] w (Gv w (T2 (Is (.agg #[AI 0,AI 0,By none 0 0])) (Is (AI 1)))):=by
 refine bQ Tryz.func36 G (n:=39) G (bq G) (args:= [.agg #[AI R,AI C,By Aa na capa]]) (bH [(0,.agg #[AI R,AI C,By Aa na capa])] ⟨rfl,Ht⟩ (sr (bx [AI R,AI C,By Aa na capa] aB G G G fun _ _ ab _ _ ak=>(dG [I0,I0,S0] ak ab.lt (fun _=>by kernel_rfl) G fun _ _ J h _ e8 ai=>(mv 1 G (aE (sr (lo bS (ab.ext e8) [AI R,AI C,By Aa na capa] G G G (cl (vs:= [.agg #[AI R,AI C,By Aa na capa]]) ai (OB hs) G (by kernel_rfl) fun _ _ ao U ag=>?_)))))))))
 obtain⟨_,_,rfl,rfl,rfl⟩:=ao
 refine mv 1 G (pu (v:= .agg #[I0,I0,S0]) G (pu (v:= AI 1) G (dG [I0,I0,S0] ag (J.ext U).lt (fun _=>by kernel_rfl) G fun _ _ H I _ ah ae=>(so bS H [I0,I0,S0] ae I G G G G fun _ _ aj aq=>(mv 1 G (aE (aH (sr (mv 1 G (aN G G G true (by decide) (aE (bJ G (aH ?_)))))))))))))
 refine aL (pu (v:= .agg #[I0,I0,S0]) G (mv 1 G ?_))
 have aa:=((J.ext (U.t ah)).vN aj)
 refine so bS aa [I0,I0,S0] aq h G G G G fun _ o _ ac=>(mv 1 G (aE (bG (dZ (bF [.agg #[I0,I0,S0],AI 1] G ⟨⟨_,rfl,bY bS o [I0,I0,S0] G (bq G) rfl⟩,rfl,Ht⟩ ?_)))))
 exact⟨_,rfl,⟨_,_,rfl,rfl,rfl⟩,ac⟩
theorem ND (hs:¬j3 R C na):aR aJ 13 #[.agg #[AI R,AI C,By Aa na capa]] w (Gv w (T2 (Is (By none 0 0)) (Is (AI 1)))):=by
 refine bQ Tryz.func13 G (n:=16) G (bq G) (args:= [.agg #[AI R,AI C,By Aa na capa]]) (bH [(0,.agg #[AI R,AI C,By Aa na capa])] ⟨rfl,Ht⟩ (sr (bx [AI R,AI C,By Aa na capa] aB G G G fun _ _ H _ _ J=>(mv 2 G (aE (sr (lo bS H [AI R,AI C,By Aa na capa] G G G (cl (vs:= [.agg #[AI R,AI C,By Aa na capa]]) J (NB hs) G (by kernel_rfl) fun _ _ r8 e7 aa=>?_))))))))
 obtain⟨_,_,rfl,rfl,rfl⟩:=r8
 refine mv 1 G (pu (v:= .agg #[I0,I0,S0]) G (pu (v:= AI 1) G (dG [I0,I0,S0] aa (H.ext e7).lt (fun _=>by kernel_rfl) G fun _ _ o h _ _ U=>(so bS o [I0,I0,S0] U h G G G G fun _ _ _ I=>(mv 1 G (aE (aH (sr (mv 1 G (aN G G G true (by decide) (aE (bJ G (aH ?_)))))))))))))
 refine aL (mv 3 G (aE (bG (dZ (bF [S0,AI 1] G ⟨rfl,rfl,Ht⟩ ?_)))))
 exact⟨_,rfl,⟨_,_,rfl,rfl,rfl⟩,I⟩
def b8 (f:Nat→Int):Nat→List Int
 | 0=> []
 | n+1=>if 1<f n then b8 f n++ [f n] else b8 f n
theorem jP {f:Nat→Int}(h:1<f n):b8 f (n+1)=b8 f n++ [f n]:=if_pos h
theorem lM {f:Nat→Int}(h:¬1<f n):b8 f (n+1)=b8 f n:=if_neg h
theorem rK {f:Nat→Int}:∀n,(b8 f n).length≤n
 | 0=>aI 0
 | n+1=>by
  have:=rK (f:=f) n
  by_cases h:1<f n
  ·rw [jP h,kI];simp only [iE,List.length_nil];omega
  ·rw [lM h];omega
theorem zD {f g:Nat→Int}:∀n,(∀a,a<n→f a=g a)→b8 f n=b8 g n
 | 0,_=>rfl
 | n+1,h=>by rw [b8,b8,zD n fun a ha=>h a (by omega),h n (by omega)]
theorem OC (hb:b≤w.heap.size)(hlb:lb≤w.heap.size){mm:Nat}(hxl:ZF w Al mm capl 17179869184 zs)(hmm:mm≤64):aR aJ 35 #[By Al mm capl] w (Gv w (LE none 17179869184 b lb ((b8 (fun k=>zs.getD k 0) mm).length) (b8 (fun k=>zs.getD k 0) mm))):=by
 obtain⟨msl,fy,ao⟩:=hxl
 refine bQ Tryz.func35 G (n:=23) G (bq G) (args:= [By Al mm capl]) ?_
 have gn:=(Lz.nil none 17179869184 w.heap.size w w.heap.size).block
 refine bH [(0,By Al mm capl)] ⟨rfl,Ht⟩ (sr (mv 1 G (aE (sr (mv 1 G (aE (aH (sr (mv 1 G (pu (v:= AI mm) G (mv 1 G (aE (bB ?_)))))))))))))
 refine d6 (T:=a0×Nat×Nat×Option a6×Nat×List Int) (fun⟨wr,i,q,LA,lc,ys⟩=> [(0,By Al mm capl),(2,By none 0 0),(3,By LA q lc),(6,By Al mm capl),(7,AI mm),(8,AI i)]) (fun⟨wr,i,q,LA,lc,ys⟩=>wr) (fun⟨wr,i,q,LA,lc,ys⟩=>(Ext w wr)∧(i≤mm)∧(w.heap.size≤wr.heap.size)∧(Lz none 17179869184 w.heap.size wr w.heap.size LA q lc ys)∧(ys=(b8 (fun k=>zs.getD k 0) i))) (fun⟨wr,i,q,LA,lc,ys⟩=>mm-i)
  (⟨w,0,0,none,0,[]⟩:a0×Nat×Nat×Option a6×Nat×List Int) ⟨aB,(by omega),(aI _),(show Lz none 17179869184 w.heap.size w w.heap.size none 0 0 [] from Lz.nil _ _ _ _ _),rfl⟩ G ⟨rfl,rfl,rfl,rfl,rfl,rfl,Ht⟩ ?_
 rintro⟨wr,i,q,LA,lc,ys⟩ ⟨ak,_,l_LAb,l_LA,au⟩
 refine d4 [(0,By Al mm capl),(2,By none 0 0),(3,By LA q lc),(6,By Al mm capl),(7,AI mm),(8,AI i)] wr G ⟨rfl,rfl,rfl,rfl,rfl,rfl,Ht⟩ ?_
 have dw:=l_LA.block
 refine aH ?_
 by_cases ib:i<mm
 ·refine aL (aN G G G true (dB (a:=i) (b:=mm) G G) (aE (aH (bJ G (bA (aM (aH (bB (sr ?_)))))))))
  obtain⟨fa,o,I,H,co,cd,av⟩:=fy.at (i:=i) (by omega)
  refine aX G G G bM aG.size i G fa co (aK G G (cd _ ak _ _ aG) (dM G (z:= .agg #[F0,S0]) (vs:= [F0,S0]) (fun _=>by kernel_rfl) G fun g4 _ nb=>?_))
  have aw:=nb.bk
  have ep:w.heap.size≤g4:=by rw [←nb.at_];exact ak.size
  have ar:∀p:a6,LA=some p→p.block≠g4:=fun p hp=>by have:=(l_LA).block p hp;have:=nb.at_;omega
  have e6:=nb.ext
  clear nb
  have eh:=ak.trans e6
  refine so aG aw [.bool o,By I (msl.getD i 0) H] eh ep G G G G fun _ J ae ah=>(aE (aH ?_))
  by_cases h1i:1<zs.getD i 0
  ·refine dP cF 4 [] [Is (.agg #[.bool o,By I (msl.getD i 0) H]),ZR w.heap.size (1),Is (AI (bU (zs.getD i 0) 1)),Is (BY)] [[],[],[0,1],[2]] [[],[],[0,1],[0,1,2]] rfl
    (aD G G (aA G G ?_) (aD G G (aA G G ?_) (aD G G (aA G G ?_) (aD G G (aA G G ?_) dF)))) ?_
   ·exact fun _ gg=>a8 (lo aG (J.ext gg) [.bool o,By I (msl.getD i 0) H] G G G (aC G aB G))
   ·intro _ fx
    have h:=ah.trans fx
    refine a8 (cl (vs:= [AI 1]) h (lI h.size (by decide) (by decide)) G (by kernel_rfl) fun _ _ ge fg ag=>?_)
    obtain⟨_,_,_,_,rfl,fo⟩:=ge
    exact aC G fg ⟨_,_,_,_,rfl,fo⟩
   ·intro _ gk
    have h:=ah.trans gk
    refine dk G G (aT G G fun _ _ fq _ fv=>?_)
    obtain⟨fd,gj,fb,ez,rfl,aq⟩:=fq
    have aq:=aq.ext fv
    refine a8 (cl (vs:= [.agg #[.bool o,By I (msl.getD i 0) H],O fd gj fb ez]) h (DO (av.ext h) (a7 (ao i) (by decide)) aq.zi (aq.le (a7 (show ln (1)≤1 by decide+kernel) (by decide)))) G (by kernel_rfl) fun _ _ fe ey ag=>?_)
    obtain rfl:=fe
    exact aC G ey rfl
   ·exact fun _ _=>dk G G (a8 (aN G G G true (J9 h1i) (aC G aB G)))
   ·intro _ U
    have h:=ah.trans U
    refine dk G G (aT G G fun _ _ em _ fk=>?_)
    obtain⟨_,_,_,_,rfl,cz⟩:=em
    have cz:=cz.ext fk
    refine dk G G (dk G G (a8 (aS (dA (aM (bJ G ?_))))))
    have gy:q≤i:=by rw [←l_LA.len,au];exact rK i
    refine aL (mv 1 G (lo aG (J.ext U) [.bool o,By I (msl.getD i 0) H] G G G (cl (vs:= [.agg #[.bool o,By I (msl.getD i 0) H]]) h (nP h.size (av.ext h) (a7 (ao i) (by decide))) G (by kernel_rfl) fun _ _ fz ac ag=>?_)))
    obtain⟨cj,df,da,dl,rfl,cu⟩:=fz
    refine jX G G (k:=1) (e:=41) (a4 cj df da dl) (fun _=>by kernel_rfl) fun bj _ nb=>?_
    have ba:=nb.bk
    have gt:w.heap.size≤bj:=by rw [←nb.at_];exact ag.size
    have ia:g4<bj:=by rw [←nb.at_];exact (J.ext (U.t ac)).lt
    have dh:∀p:a6,LA=some p→p.block≠bj:=fun p hp=>by have:=((((l_LA.ext e6).updT aw ae ar).ext (U.t ac))).block p hp;have:=nb.at_;omega
    have ab:=nb.ext
    clear nb
    have ee:=ag.trans ab
    have bh:=(((l_LA.ext e6).updT aw ae ar).ext (U.t (ac.t ab)))
    obtain⟨_,_⟩:=bh.own
    refine vO (e:=⟨cj,df,da,dl⟩) (z:=(zs.getD i 0)) G G G bh (a7 (a7 (a7 (a7 (a7 l_LAb e6.size) ae.by_.size) U.size) ac.size) ab.size) ba (bE (cu.ext ab)) (cu.le (a7 (a7 av.ln (ao i)) (by decide))) fun ew eg cn az bc bi=>?_
    have gc:=bc.ext ee (fun p hp=>by have:=dw p hp;omega)
    have ai:w.heap.size≤cn.heap.size:=a7 (a7 (a7 (a7 (a7 (a7 l_LAb e6.size) ae.by_.size) U.size) ac.size) ab.size) bc.size
    have gw:=nM bi (J.ext (U.t (ac.t ab))).lt ar
    have gx:=nM bi ba.lt dh
    have fh:=az.block
    refine mv 1 G (aS (cC (aM (aL (bC G G G ((i+1:Nat):Int) (bW (a:=i) (b:=1) G G) (mv 1 G (aS (cB (⟨cn,i+1,q+1,ew,eg,ys++ [(zs.getD i 0)]⟩:a0×Nat×Nat×Option a6×Nat×List Int) ⟨gc,(by omega),ai,az,(by rw [au];exact (jP h1i).symm)⟩ (show mm-(i+1)<mm-i by omega) G ⟨rfl,rfl,rfl,rfl,rfl,rfl,Ht⟩))))))))
  ·refine dP cF 4 [] [Is (.agg #[.bool o,By I (msl.getD i 0) H]),ZR w.heap.size (1),Is (AI (bU (zs.getD i 0) 1)),Is (Hs)] [[],[],[0,1],[2]] [[],[],[0,1],[0,1,2]] rfl
    (aD G G (aA G G ?_) (aD G G (aA G G ?_) (aD G G (aA G G ?_) (aD G G (aA G G ?_) dF)))) ?_
   ·exact fun _ fj=>a8 (lo aG (J.ext fj) [.bool o,By I (msl.getD i 0) H] G G G (aC G aB G))
   ·intro _ dy
    have h:=ah.trans dy
    refine a8 (cl (vs:= [AI 1]) h (lI h.size (by decide) (by decide)) G (by kernel_rfl) fun _ _ dn ft ag=>?_)
    obtain⟨_,_,_,_,rfl,dd⟩:=dn
    exact aC G ft ⟨_,_,_,_,rfl,dd⟩
   ·intro _ ce
    have h:=ah.trans ce
    refine dk G G (aT G G fun _ _ cx _ bz=>?_)
    obtain⟨cm,dc,bu,cg,rfl,aa⟩:=cx
    have aa:=aa.ext bz
    refine a8 (cl (vs:= [.agg #[.bool o,By I (msl.getD i 0) H],O cm dc bu cg]) h (DO (av.ext h) (a7 (ao i) (by decide)) aa.zi (aa.le (a7 (show ln (1)≤1 by decide+kernel) (by decide)))) G (by kernel_rfl) fun _ _ dm cf ag=>?_)
    obtain rfl:=dm
    exact aC G cf rfl
   ·exact fun _ _=>dk G G (a8 (aN G G G false (JA (by omega)) (aC G aB G)))
   ·intro du aj
    have h:=ah.trans aj
    refine dk G G (aT G G fun _ _ bv _ bw=>?_)
    obtain⟨_,_,_,_,rfl,bg⟩:=bv
    have bg:=bg.ext bw
    refine dk G G (dk G G (a8 (aS (dA (aM (aY G (bA (cC (aM (aL (bC G G G ((i+1:Nat):Int) (bW (a:=i) (b:=1) G G) (mv 1 G (aS ?_)))))))))))))
    refine cB (⟨du,i+1,q,LA,lc,ys⟩:a0×Nat×Nat×Option a6×Nat×List Int) ⟨h,(by omega),(a7 (a7 (a7 l_LAb e6.size) ae.by_.size) aj.size),(((l_LA.ext e6).updT aw ae ar).ext aj),(by rw [au];exact (lM h1i).symm)⟩ (show mm-(i+1)<mm-i by omega) G ⟨rfl,rfl,rfl,rfl,rfl,rfl,Ht⟩
 ·refine aL (aN G G G false (dK (a:=i) (b:=mm) G G) (aE (aH (aY G (cM (cK (cT (cL (aM (sr (mv 2 G (aE (bG ?_)))))))))))))
  refine bF [By LA q lc] G ⟨rfl,Ht⟩ ?_
  obtain rfl:ys=(b8 (fun k=>zs.getD k 0) mm):=by rw [au,show i=mm by omega]
  obtain rfl:=l_LA.len
  exact⟨_,rfl,⟨_,_,rfl,(l_LA).mono (aI _) hb hlb⟩,ak⟩
def cR (f:Nat→Int):Nat→Nat
 | 0=>0
 | n+1=>if f n=0 then cR f n else cR f n+1
theorem t8 {f:Nat→Int}(h:f n=0):cR f (n+1)=cR f n:=if_pos h
theorem mC {f:Nat→Int}(h:f n≠0):cR f (n+1)=cR f n+1:=if_neg h
theorem mD {f:Nat→Int}:∀n,cR f n≤n
 | 0=>aI 0
 | n+1=>by
  have:=mD (f:=f) n
  by_cases h:f n=0
  ·rw [t8 h];omega
  ·rw [mC h];omega
theorem y8 (hb:b≤w.heap.size)(hlb:lb≤w.heap.size){mm:Nat}(hmm:mm=min n cc)(hxa:ZF w Aa na capa 1048576 xs)(hna:na=n*cc)(hn:n≤64)(hcc:cc≤64)(hX:En n cc X xs)(hXa:∀a b,a<n→b<cc→ln (X a b)≤1048576):aR aJ 12 #[.agg #[AI n,AI cc,By Aa na capa]] w (Gv w (T3 (Is (AI ((cc-cR (aV n cc mm X) mm:Nat):Int))) (LQ none 17179869184 b lb ((b8 (aV n cc mm X) mm).length) (fun ys=>Fc n cc mm X (aV n cc mm X)∧ys=b8 (aV n cc mm X) mm)) (Is (AI 0)))):=by
 have fa:=hxa
 obtain⟨msa,dq,ee⟩:=hxa
 refine bQ Tryz.func12 G (n:=33) G (bq G) (args:= [.agg #[AI n,AI cc,By Aa na capa]]) (bH [(0,.agg #[AI n,AI cc,By Aa na capa])] ⟨rfl,Ht⟩ (sr (bx [AI n,AI cc,By Aa na capa] aB G G G fun g1 v2 ar _ _ I=>(mv 3 G (aE (sr (lo bS ar [AI n,AI cc,By Aa na capa] G G G ?_)))))))
 obtain⟨dd,av,_,_,_⟩:∃lb,lb≤v2.heap.size∧v2.heap.size≤lb∧w.heap.size≤lb∧g1<lb:=⟨v2.heap.size,aI _,aI _,I.size,ar.lt⟩
 refine cl (vs:= [.agg #[AI n,AI cc,By Aa na capa]]) I (DX (X:=X) I.size av hmm ((show ZF w _ _ _ _ _ from⟨msa,dq,ee⟩).ext I) hna hn hcc hX hXa) G (by kernel_rfl) fun _ v7 r9 e8 ai=>?_
 obtain⟨_,_,rfl,⟨o,H,ak,rfl,au,bg⟩,r10_1⟩:=r9
 have cf:=au.block
 obtain rfl:=r10_1
 refine mv 1 G (pu (v:= By o mm H) G (pu (v:= AI 0) G (mv 2 G (aE (aH (sr (mv 1 G (aN G G G false (by decide) (aE (aY G (bA (aM (aH ?_)))))))))))))
 refine aL (pf g1 1 G (aK G G (aQ bV (ar.ext e8) G) (mv 1 G (aE (aH (sr (mv 1 G (pu (v:= AI mm) G (mv 1 G (aE (bB ?_)))))))))))
 have du:=bg.1
 have bv:=bg.2
 refine d6 (T:=a0×Nat×Nat) (fun⟨wr,i,rk⟩=> [(0,.agg #[AI n,AI cc,By Aa na capa]),(1,a9 g1 0),(2,AI rk),(3,By none 0 0),(4,AI 0),(5,By o mm H),(8,.tuple #[By o mm H,I0]),(9,.agg #[AI n,AI cc,By Aa na capa]),(10,.tuple #[By o mm H,I0]),(11,By o mm H),(12,AI 0),(13,AI 0),(14,Hs),(16,a9 g1 1),(17,AI cc),(18,By o mm H),(19,AI mm),(20,AI i)]) (fun⟨wr,i,rk⟩=>wr) (fun⟨wr,i,rk⟩=>(Ext w wr)∧(i≤mm)∧(Bk wr g1 24 [AI n,AI cc,By Aa na capa])∧(dd≤wr.heap.size)∧(Lz none 17179869184 w.heap.size wr dd o mm H ak)∧(∀p:a6,o=some p→p.block≠g1)∧(rk=cc-cR (aV n cc mm X) i)) (fun⟨wr,i,rk⟩=>mm-i)
  (⟨v7,0,cc⟩:a0×Nat×Nat) ⟨ai,(by omega),(ar.ext e8),(a7 av e8.size),au,(show∀p:a6,o=some p→p.block≠g1 from fun p hp=>by have:=cf p hp;omega),rfl⟩ G ⟨rfl,rfl,rfl,rfl,rfl,rfl,rfl,rfl,rfl,rfl,rfl,rfl,rfl,rfl,rfl,rfl,rfl,rfl,Ht⟩ ?_
 rintro⟨wr,i,rk⟩ ⟨I,_,b_g1,l_LA11b,l_LA11,l_LA11_g1,df⟩
 refine d4 [(0,.agg #[AI n,AI cc,By Aa na capa]),(1,a9 g1 0),(2,AI rk),(3,By none 0 0),(4,AI 0),(5,By o mm H),(8,.tuple #[By o mm H,I0]),(9,.agg #[AI n,AI cc,By Aa na capa]),(10,.tuple #[By o mm H,I0]),(11,By o mm H),(12,AI 0),(13,AI 0),(14,Hs),(16,a9 g1 1),(17,AI cc),(18,By o mm H),(19,AI mm),(20,AI i)] wr G ⟨rfl,rfl,rfl,rfl,rfl,rfl,rfl,rfl,rfl,rfl,rfl,rfl,rfl,rfl,rfl,rfl,rfl,rfl,Ht⟩ ?_
 have dl:=l_LA11.block
 refine aH ?_
 by_cases cx:i<mm
 ·refine aL (aN G G G true (dB (a:=i) (b:=mm) G G) (aE (aH (bJ G (bA (aM (aH (bB (sr ?_)))))))))
  obtain⟨cg,ah,ab,aa,ae,cd,ce,bo,cn⟩:=(l_LA11).at (i:=i) (by omega)
  have ag:=cn.zr
  have aw:ln (ak.getD i 0)≤17179869184:=ag.ln_le bo
  refine aX G G G bM aG.size i G cg cd (aK G G (ce _ aB _ _ aG) (dM G (z:= .agg #[F0,S0]) (vs:= [F0,S0]) (fun _=>by kernel_rfl) G fun bu _ nb=>?_))
  have U:=nb.bk
  have cu:w.heap.size≤bu:=by rw [←nb.at_];exact I.size
  have fb:g1<bu:=by rw [←nb.at_];exact b_g1.lt
  have az:∀p:a6,o=some p→p.block≠bu:=fun p hp=>by have:=(l_LA11).block p hp;have:=nb.at_;omega
  have J:=nb.ext
  clear nb
  have ai:=I.trans J
  refine so aG U (a4 ah ab aa ae) ai cu G G G G fun _ ba ac cj=>(aE (aH ?_))
  by_cases aq:ak.getD i 0=0
  ·refine aL (lo aG ba (a4 ah ab aa ae) G G G (cl (vs:= [O ah ab aa ae]) cj (f8 ((ag.ext J).updT U ac).zi (ag.le (aZ aw G))) G (by kernel_rfl) fun _ eh dw bz bj=>?_))
   obtain rfl:=dw
   refine aN G G G false (pY aq) (aE (aY G (bA (cC (aM (aL (bC G G G ((i+1:Nat):Int) (bW (a:=i) (b:=1) G G) (mv 1 G (aS (cB (⟨eh,i+1,rk⟩:a0×Nat×Nat) ⟨bj,(by omega),(((b_g1.ext J).vN ac).ext bz),(a7 (a7 (a7 l_LA11b J.size) ac.by_.size) bz.size),(((l_LA11.ext J).updT U ac az).ext bz),l_LA11_g1,(by have h9:=t8 (f:=aV n cc mm X) (n:=i) (by rw [←bv i cx];exact aq);have h8:=mD (f:=aV n cc mm X) i;rw [h9];omega)⟩ (show mm-(i+1)<mm-i by omega) G ⟨rfl,rfl,rfl,rfl,rfl,rfl,rfl,rfl,rfl,rfl,rfl,rfl,rfl,rfl,rfl,rfl,rfl,rfl,Ht⟩))))))))))
  ·refine aL (lo aG ba (a4 ah ab aa ae) G G G (cl (vs:= [O ah ab aa ae]) cj (f8 ((ag.ext J).updT U ac).zi (ag.le (aZ aw G))) G (by kernel_rfl) fun _ dy dm bi bj=>?_))
   obtain rfl:=dm
   refine aN G G G true (pX aq) (aE (bJ G ?_))
   have ez:1≤rk:=by have h8:=mD (f:=aV n cc mm X) i;omega
   refine aL (mv 1 G (bC G G G ((rk-1:Nat):Int) (iY (a:=rk) (b:=1) G G) (mv 1 G (aS (cC (aM (aL (bC G G G ((i+1:Nat):Int) (bW (a:=i) (b:=1) G G) (mv 1 G (aS (cB (⟨dy,i+1,rk-1⟩:a0×Nat×Nat) ⟨bj,(by omega),(((b_g1.ext J).vN ac).ext bi),(a7 (a7 (a7 l_LA11b J.size) ac.by_.size) bi.size),(((l_LA11.ext J).updT U ac az).ext bi),l_LA11_g1,(by have h9:=mC (f:=aV n cc mm X) (n:=i) (by rw [←bv i cx];exact aq);have h8:=mD (f:=aV n cc mm X) i;rw [h9];omega)⟩ (show mm-(i+1)<mm-i by omega) G ⟨rfl,rfl,rfl,rfl,rfl,rfl,rfl,rfl,rfl,rfl,rfl,rfl,rfl,rfl,rfl,rfl,rfl,rfl,Ht⟩)))))))))))
 ·refine aL (aN G G G false (dK (a:=i) (b:=mm) G G) (aE (aH (aY G (cM (cK (cT (cL (aM (aH ?_))))))))))
  obtain rfl:rk=cc-cR (aV n cc mm X) mm:=by rw [df,show i=mm by omega]
  refine aL (mv 2 G ?_)
  obtain⟨cz,bh,aj,bw,_⟩:∃lb,lb≤wr.heap.size∧wr.heap.size≤lb∧w.heap.size≤lb∧g1<lb:=⟨wr.heap.size,aI _,aI _,I.size,b_g1.lt⟩
  have dh:∀p:a6,o=some p→p.block<cz:=fun p hp=>cJ ((l_LA11).block p hp).2 aj
  refine cl (vs:= [By o mm H]) I ((by have h:=OC (mm:=mm) I.size bh (l_LA11.zf0) (by omega);rw [zD mm fun a ha=>bv a ha] at h;exact h.mono (Gv.imp (LE.lq (p:=fun ys=>Fc n cc mm X (aV n cc mm X)∧ys=b8 (aV n cc mm X) mm) ⟨du,rfl⟩)))) G (by kernel_rfl) fun _ _ eg _ ai=>?_
  obtain⟨co,da,_,rfl,bc,cm⟩:=eg
  have em:=bc.block
  refine mv 3 G (aE (bG (bF [AI ((cc-cR (aV n cc mm X) mm:Nat):Int),By co ((b8 (aV n cc mm X) mm).length) da,I0] G ⟨rfl,rfl,rfl,Ht⟩ ?_)))
  exact⟨_,rfl,⟨_,_,_,rfl,rfl,⟨_,_,_,rfl,(bc).mono (aI _) hb (a7 hlb bw),cm⟩,rfl⟩,ai⟩
theorem OE (hs:¬j3 R C na):aR aJ 12 #[.agg #[AI R,AI C,By Aa na capa]] w (Gv w (T3 (Is (AI 0)) (Is (By none 0 0)) (Is (AI 1)))):=by
 refine bQ Tryz.func12 G (n:=33) G (bq G) (args:= [.agg #[AI R,AI C,By Aa na capa]]) (bH [(0,.agg #[AI R,AI C,By Aa na capa])] ⟨rfl,Ht⟩ (sr (bx [AI R,AI C,By Aa na capa] aB G G G fun _ _ h _ _ o=>(mv 3 G (aE (sr (lo bS h [AI R,AI C,By Aa na capa] G G G (cl (vs:= [.agg #[AI R,AI C,By Aa na capa]]) o (ND hs) G (by kernel_rfl) fun _ _ I _ H=>?_))))))))
 obtain⟨_,_,rfl,rfl,rfl⟩:=I
 refine mv 1 G (pu (v:= By none 0 0) G (pu (v:= AI 1) G (mv 2 G (aE (aH (sr (mv 1 G (aN G G G true (by decide) (aE (bJ G (sr (mv 4 G (aS ?_)))))))))))))
 refine aM (bG (dZ (bF [I0,S0,AI 1] G ⟨rfl,rfl,rfl,Ht⟩ ?_)))
 exact⟨_,rfl,⟨_,_,_,rfl,rfl,rfl,rfl⟩,H⟩
def fQ (l:List Int):Int:=l.foldl (· * ·) 1
theorem oS (l:List Int)(x:Int):fQ (l++ [x])=fQ l*x:=by unfold fQ;rw [List.foldl_append];rfl
theorem xF (h:i<l.length):fQ (l.take (i+1))=fQ (l.take i)*l.getD i 0:=by rw [I1 0 h,oS]
theorem L0 (l:List Int):∀i,fQ (l.take i)∣fQ l:=fun i=>by
 have key:∀t,fQ (l.take i)∣fQ (l.take (i+t)):=fun t=>by
  induction t with
  | zero=>exact Int.dvd_refl _
  | succ t ih=>
   by_cases h:i+t<l.length
   ·rw [←jU,xF h];exact Int.dvd_mul_of_dvd_left ih
   ·rw [List.take_of_length_le (show l.length≤i+(t+1) by omega)]
    rwa [List.take_of_length_le (show l.length≤i+t by omega)] at ih
 have:=key l.length
 rwa [List.take_of_length_le (show l.length≤i+l.length by omega)] at this
theorem xG {f:Nat→Int}:∀n,(∀a,a<n→0≤f a)→fQ (b8 f n)=pd n fun a=>nz (f a)
 | 0,_=>rfl
 | n+1,h=>by
  have ih:=xG n fun a _=>h a (by omega)
  have H:=h n (Nat.lt_succ_self n)
  rw [pd,←ih]
  by_cases o:1<f n
  ·rw [jP o,oS,show nz (f n)=f n from if_neg (by omega)]
  ·rw [lM o]
   have:nz (f n)=1:=by
    unfold nz;split
    ·rfl
    ·omega
   rw [this,Int.mul_one]
theorem wQ {f:Nat→Int}:∀n,(pd n fun k=>nz (f k))≠0
 | 0=>(by decide:(1:Int)≠0)
 | n+1=>by rw [pd];exact Int.mul_ne_zero (wQ n) (CO _)
theorem Fc.part {v:Nat→Int}(h:Fc n c m X v)(i:Nat):ln (fQ ((b8 v m).take i))≤136323396:=by
 have o:=L0 (b8 v m) i
 rw [xG m h.nn] at o
 exact nK o (wQ m) h.pl
theorem wU {f:Nat→Int}:∀n,cR f n=n→∀a,a<n→f a≠0
 | 0,_,a,h=>absurd h (Nat.not_lt_zero a)
 | n+1,h,a,ha=>by
  have h2:=mD (f:=f) n
  by_cases o:f n=0
  ·rw [t8 o] at h;omega
  ·rw [mC o] at h
   by_cases e:a=n
   ·rw [e];exact o
   ·exact wU n (by omega) a (by omega)
theorem Fc.size {v:Nat→Int}(h:Fc m m m X v)(hz:cR v m=m):fQ (b8 v m)=(dt m X).natAbs:=by
 rw [xG m h.nn,←h.dx rfl]
 have e:(pd m fun a=>nz (v a))=pd m v:=kN m fun a o=>if_neg (wU m hz a o)
 rw [e]
 have H:∀a,a<m→0<v a:=fun a o=>by have:=h.nn a o;have:=wU m hz a o;omega
 have:=nH m H
 omega
theorem OD (hb:b≤w.heap.size)(_hlb:lb≤w.heap.size){mm:Nat}(hmm:mm=min n cc)(hxa:ZF w Aa na capa 1048576 xs)(hna:na=n*cc)(hn:n≤64)(hcc:cc≤64)(hX:En n cc X xs)(hXa:∀a b,a<n→b<cc→ln (X a b)≤1048576):aR aJ 14 #[.agg #[AI n,AI cc,By Aa na capa]] w (Gv w (T2 (ZR b (if cc-cR (aV n cc mm X) mm=0 then fQ (b8 (aV n cc mm X) mm) else 0)) (Is (AI 0)))):=by
 have ge:=hxa
 obtain⟨msa,fk,fv⟩:=hxa
 have gj:=rK (f:=aV n cc mm X) mm
 refine bQ Tryz.func14 G (n:=36) G (bq G) (args:= [.agg #[AI n,AI cc,By Aa na capa]]) (bH [(0,.agg #[AI n,AI cc,By Aa na capa])] ⟨rfl,Ht⟩ (sr (bx [AI n,AI cc,By Aa na capa] aB G G G fun g1 _ cd _ _ ar=>(dG [F0,S0] ar cd.lt (fun _=>by kernel_rfl) G fun g6 v7 bw cf _ e8 J=>(mv 1 G (aE (sr (lo bS (cd.ext e8) [AI n,AI cc,By Aa na capa] G G G ?_))))))))
 obtain⟨cm,au,_,_,_,_⟩:∃lb,lb≤v7.heap.size∧v7.heap.size≤lb∧w.heap.size≤lb∧g1<lb∧g6<lb:=⟨v7.heap.size,aI _,aI _,J.size,(cd.ext e8).lt,bw.lt⟩
 refine cl (vs:= [.agg #[AI n,AI cc,By Aa na capa]]) J (y8 (X:=X) J.size au hmm ((show ZF w _ _ _ _ _ from⟨msa,fk,fv⟩).ext J) hna hn hcc hX hXa) G (by kernel_rfl) fun _ _ fh ai ae=>?_
 obtain⟨_,_,_,rfl,rfl,⟨h,o,H,rfl,aj,cu⟩,r16_2⟩:=fh
 have ao:=aj.block
 obtain rfl:=r16_2
 refine mv 1 G (pu (v:= AI ((cc-cR (aV n cc mm X) mm:Nat):Int)) G (pu (v:= By h ((b8 (aV n cc mm X) mm).length) o) G (pu (v:= AI 0) G (mv 3 G (aE (aH (aH ?_)))))))
 have dq:=cu.1
 have bu:=cu.2
 by_cases cg:cc-cR (aV n cc mm X) mm=0
 ·refine aL (mv 1 G (aN G G G false (by decide) (mv 2 G (aN G G G false (mM (a:=cc-cR (aV n cc mm X) mm) (b:=0) G G) (pu (v:= Hs) G (aE (aY G (bA (aM (sr (cl (vs:= [AI 1]) ae (lI ae.size (by decide) (by decide)) G (by kernel_rfl) fun _ _ ft ag ac=>?_)))))))))))
  obtain⟨ce,bj,bz,bv,rfl,fd⟩:=ft
  refine dM G (z:= .agg #[F0,S0]) (vs:= [F0,S0]) (fun _=>by kernel_rfl) G fun aa _ nb=>?_
  have bg:=nb.bk
  have co:w.heap.size≤aa:=by rw [←nb.at_];exact ac.size
  have gg:g6<aa:=by rw [←nb.at_];exact (bw.ext (ai.t ag)).lt
  have cn:∀p:a6,h=some p→p.block≠aa:=fun p hp=>by have:=((aj.ext ag)).block p hp;have:=nb.at_;omega
  have ah:=nb.ext
  clear nb
  have dh:=ac.trans ah
  refine so aG bg (a4 ce bj bz bv) dh co G G G G fun fr dm bc fe=>(aE (aH (sr (mv 1 G (pu (v:= AI ((((b8 (aV n cc mm X) mm).length):Nat):Int)) G (mv 1 G (aE (bB ?_))))))))
  have gt:H.length=(b8 (aV n cc mm X) mm).length:=by rw [bu]
  refine d6 (T:=a0×Nat×Bool×Option a6×Nat×Nat×Int) (fun⟨wr,i,sv,Av,nv,cv,pz⟩=> [(0,.agg #[AI n,AI cc,By Aa na capa]),(1,a9 g1 0),(2,a9 g6 0),(3,AI 0),(4,AI ((cc-cR (aV n cc mm X) mm:Nat):Int)),(5,By h ((b8 (aV n cc mm X) mm).length) o),(6,AI 0),(7,a9 aa 0),(10,.tuple #[AI ((cc-cR (aV n cc mm X) mm:Nat):Int),By h ((b8 (aV n cc mm X) mm).length) o,I0]),(11,.agg #[AI n,AI cc,By Aa na capa]),(12,.tuple #[AI ((cc-cR (aV n cc mm X) mm:Nat):Int),By h ((b8 (aV n cc mm X) mm).length) o,I0]),(13,AI ((cc-cR (aV n cc mm X) mm:Nat):Int)),(14,By h ((b8 (aV n cc mm X) mm).length) o),(15,AI 0),(16,AI 0),(17,Hs),(18,Hs),(19,AI ((cc-cR (aV n cc mm X) mm:Nat):Int)),(20,Hs),(21,Hs),(24,O ce bj bz bv),(25,By h ((b8 (aV n cc mm X) mm).length) o),(26,AI ((((b8 (aV n cc mm X) mm).length):Nat):Int)),(27,AI i)]) (fun⟨wr,i,sv,Av,nv,cv,pz⟩=>wr) (fun⟨wr,i,sv,Av,nv,cv,pz⟩=>(Ext w wr)∧(i≤(b8 (aV n cc mm X) mm).length)∧(Bk wr g1 24 [AI n,AI cc,By Aa na capa])∧(Bk wr g6 41 [F0,S0])∧(Bk wr aa 41 (a4 sv Av nv cv))∧(Zr wr w.heap.size sv Av nv cv (pz))∧(cm≤wr.heap.size)∧(Lz none 17179869184 w.heap.size wr cm h ((b8 (aV n cc mm X) mm).length) o H)∧(∀p:a6,h=some p→p.block≠g1)∧(∀p:a6,h=some p→p.block≠g6)∧(∀p:a6,h=some p→p.block≠aa)∧(pz=fQ (H.take i))) (fun⟨wr,i,sv,Av,nv,cv,pz⟩=>((b8 (aV n cc mm X) mm).length)-i)
   (⟨fr,0,ce,bj,bz,bv,1⟩:a0×Nat×Bool×Option a6×Nat×Nat×Int) ⟨fe,(by omega),((cd.ext (e8.t (ai.t (ag.t ah)))).vN bc),((bw.ext (ai.t (ag.t ah))).vN bc),dm,((fd.ext ah).updT bg bc),(a7 (a7 (a7 (a7 au ai.size) ag.size) ah.size) bc.by_.size),((aj.ext (ag.t ah)).updT bg bc cn),(show∀p:a6,h=some p→p.block≠g1 from fun p hp=>by have:=ao p hp;omega),(show∀p:a6,h=some p→p.block≠g6 from fun p hp=>by have:=ao p hp;omega),cn,rfl⟩ G ⟨rfl,rfl,rfl,rfl,rfl,rfl,rfl,rfl,rfl,rfl,rfl,rfl,rfl,rfl,rfl,rfl,rfl,rfl,rfl,rfl,rfl,rfl,rfl,rfl,Ht⟩ ?_
  rintro⟨wr,i,sv,Av,nv,cv,pz⟩ ⟨ar,_,b_g1,b_g6,b_g23,z_g23,l_LA17b,l_LA17,l_LA17_g1,l_LA17_g6,l_LA17_g23,bo⟩
  refine d4 [(0,.agg #[AI n,AI cc,By Aa na capa]),(1,a9 g1 0),(2,a9 g6 0),(3,AI 0),(4,AI ((cc-cR (aV n cc mm X) mm:Nat):Int)),(5,By h ((b8 (aV n cc mm X) mm).length) o),(6,AI 0),(7,a9 aa 0),(10,.tuple #[AI ((cc-cR (aV n cc mm X) mm:Nat):Int),By h ((b8 (aV n cc mm X) mm).length) o,I0]),(11,.agg #[AI n,AI cc,By Aa na capa]),(12,.tuple #[AI ((cc-cR (aV n cc mm X) mm:Nat):Int),By h ((b8 (aV n cc mm X) mm).length) o,I0]),(13,AI ((cc-cR (aV n cc mm X) mm:Nat):Int)),(14,By h ((b8 (aV n cc mm X) mm).length) o),(15,AI 0),(16,AI 0),(17,Hs),(18,Hs),(19,AI ((cc-cR (aV n cc mm X) mm:Nat):Int)),(20,Hs),(21,Hs),(24,O ce bj bz bv),(25,By h ((b8 (aV n cc mm X) mm).length) o),(26,AI ((((b8 (aV n cc mm X) mm).length):Nat):Int)),(27,AI i)] wr G ⟨rfl,rfl,rfl,rfl,rfl,rfl,rfl,rfl,rfl,rfl,rfl,rfl,rfl,rfl,rfl,rfl,rfl,rfl,rfl,rfl,rfl,rfl,rfl,rfl,Ht⟩ ?_
  have fy:=l_LA17.block
  refine aH ?_
  by_cases gk:i<(b8 (aV n cc mm X) mm).length
  ·refine aL (aN G G G true (dB (a:=i) (b:=(b8 (aV n cc mm X) mm).length) G G) (aE (aH (bJ G (bA (aM (aH (bB (sr ?_)))))))))
   obtain⟨ez,aq,az,ak,av,cx,dc,df,dy⟩:=(l_LA17).at (i:=i) (by omega)
   have aw:=dy.zr
   have fb:ln (H.getD i 0)≤17179869184:=aw.ln_le df
   refine aX G G G bM aG.size i G ez cx (aK G G (dc _ aB _ _ aG) (dM G (z:= .agg #[F0,S0]) (vs:= [F0,S0]) (fun _=>by kernel_rfl) G fun cz _ nb=>?_))
   have ab:=nb.bk
   have fa:w.heap.size≤cz:=by rw [←nb.at_];exact ar.size
   have gn:aa<cz:=by rw [←nb.at_];exact b_g23.lt
   have ee:∀p:a6,h=some p→p.block≠cz:=fun p hp=>by have:=(l_LA17).block p hp;have:=nb.at_;omega
   have I:=nb.ext
   clear nb
   have J:=ar.trans I
   refine so aG ab (a4 aq az ak av) J fa G G G G fun _ em U ae=>(aE ?_)
   have gw:ln (pz*H.getD i 0)≤136323396:=by rw [bo,←xF (by omega),bu];exact dq.part (i+1)
   refine aL (lo aG ((b_g23.ext I).vN U) (a4 sv Av nv cv) G G G (lo aG em (a4 aq az ak av) G G G (cl (vs:= [O sv Av nv cv,O aq az ak av]) ae (iU ae.size ((z_g23.ext I).updT ab U).zi (z_g23.le (a7 (by rw [bo,bu];exact dq.part i) (by decide))) ((aw.ext I).updT ab U).zi (aw.le (aZ fb G))) G (by kernel_rfl) fun _ _ fq bi ac=>?_)))
   obtain⟨dn,ep,du,eg,rfl,fx⟩:=fq
   have ba:=(((b_g23.ext I).vN U).ext bi)
   refine so aG ba (a4 dn ep du eg) ac co G G G G fun gc ew bh dh=>(aS (cC (aM (aL (bC G G G ((i+1:Nat):Int) (bW (a:=i) (b:=1) G G) (mv 1 G (aS (cB (⟨gc,i+1,dn,ep,du,eg,pz*(H.getD i 0)⟩:a0×Nat×Bool×Option a6×Nat×Nat×Int) ⟨dh,(by omega),((((b_g1.ext I).vN U).ext bi).vN bh),((((b_g6.ext I).vN U).ext bi).vN bh),ew,(fx.updT ba bh),(a7 (a7 (a7 (a7 l_LA17b I.size) U.by_.size) bi.size) bh.by_.size),((((l_LA17.ext I).updT ab U ee).ext bi).updT ba bh l_LA17_g23),l_LA17_g1,l_LA17_g6,l_LA17_g23,(by rw [bo,xF (by omega)])⟩ (show ((b8 (aV n cc mm X) mm).length)-(i+1)<((b8 (aV n cc mm X) mm).length)-i by omega) G ⟨rfl,rfl,rfl,rfl,rfl,rfl,rfl,rfl,rfl,rfl,rfl,rfl,rfl,rfl,rfl,rfl,rfl,rfl,rfl,rfl,rfl,rfl,rfl,rfl,Ht⟩))))))))
  ·refine aL (aN G G G false (dK (a:=i) (b:=(b8 (aV n cc mm X) mm).length) G G) (aE (aH (aY G (cM (cK (cT (cL (aM (sr (lo aG b_g23 (a4 sv Av nv cv) G G G ?_)))))))))))
   have cj:=b_g6
   refine so aG cj (a4 sv Av nv cv) ar cf G G G G fun _ ey fo J=>(mv 1 G (aE (bG (bF [O sv Av nv cv,I0] G ⟨⟨_,rfl,bY aG ey (a4 sv Av nv cv) G (bq G) rfl⟩,rfl,Ht⟩ ?_))))
   exact⟨_,rfl,⟨_,_,rfl,⟨_,_,_,_,rfl,(((z_g23.updT cj fo)).cast (by rw [if_pos cg,bo,bu,List.take_of_length_le (by omega)])).mono hb⟩,rfl⟩,J⟩
 ·refine aL (mv 1 G (aN G G G false (by decide) (mv 2 G (aN G G G true (nV (a:=cc-cR (aV n cc mm X) mm) (b:=0) G G) (pu (v:= BY) G (aE (bJ G (sr (pu (v:= .agg #[F0,S0]) G (mv 1 G ?_))))))))))
  have eh:=(bw.ext ai)
  refine so aG eh [F0,S0] ae cf G G G G fun fg dw _ ac=>(mv 1 G (aE (bG (dZ (bF [.agg #[F0,S0],I0] G ⟨⟨_,rfl,bY aG dw [F0,S0] G (bq G) rfl⟩,rfl,Ht⟩ ?_)))))
  exact⟨_,rfl,⟨_,_,rfl,⟨_,_,_,_,rfl,(((Zr.zero (w:=fg) (base:=w.heap.size))).cast (if_neg cg).symm).mono hb⟩,rfl⟩,ac⟩
theorem Rin.ex (A : Mx)(n c : Nat): ∃ d Y, Rin A n c d d Y := by
  have key : ∀ t d e Z, e - d ≤ t → Rin A n c d e Z → ∃ d' Y, Rin A n c d' d' Y := by
    intro t
    induction t with
    | zero => intro d e Z h hR; obtain rfl : e = d := by have := hR.de; omega
              exact ⟨_, _, hR⟩
    | succ t ih =>
      intro d e Z h hR
      by_cases hde : d < e
      · by_cases hb : iR dO c d Z = true
        · exact ih _ _ _ (by omega) (hR.yes mT hde hb)
        · exact ih _ _ _ (by omega) (hR.no mT hde (by simpa using hb))
      · obtain rfl : e = d := by have := hR.de; omega
        exact ⟨_, _, hR⟩
  exact key _ _ _ _ (aI _) (Rin.start A n c)
theorem CZ:∀i j,i<2→j<2→cI 2 2 iI 0 i j=nJ i j:=fun i j hi hj=>by
 obtain⟨d,Y,h⟩:=Rin.ex iI 2 2
 rw [nI rfl]
 exact (tR h i j hi hj).symm.trans (HC (fun _ _ _ _=>rfl) h i j hi hj)
theorem DC:eP 2 2 (cI 2 2 iI 0):=fun i j hi hj o=>by
 rw [CZ i j hi hj]
 have H:∀i,i<2→i=0∨i=1:=fun i h=>by omega
 rcases H i hi with rfl | rfl <;> rcases H j hj with rfl | rfl
 ·exact absurd G o
 ·rfl
 ·rfl
 ·exact absurd G o
theorem y9:∀a,a<2→aV 2 2 2 iI a=if a=0 then 2 else 4:=fun a o=>by
 have H:∃k,eP 2 2 (cI 2 2 iI k)∧∀j,j<k→¬eP 2 2 (cI 2 2 iI j):=⟨0,DC,fun j hj=>absurd hj (Nat.not_lt_zero j)⟩
 have e:jB H=0:=by
  obtain⟨_,J⟩:=lX H
  generalize jB H=q at*
  exact Nat.eq_zero_of_not_pos fun h=>J 0 h DC
 unfold aV
 rw [dif_pos H,e,yN (g:=fun a=>if a=0 then 2 else 4) (fun a o=>?_) 2 (aI 2) a o]
 ·have I:a=0∨a=1:=by omega
  rcases I with rfl | rfl <;> rfl
 ·rw [CZ a a o o]
  have I:a=0∨a=1:=by omega
  rcases I with rfl | rfl <;> rfl
theorem K1:cR (aV 2 2 2 iI) 2=2:=by
 rw [mC (by rw [y9 1 (by decide)];decide),mC (by rw [y9 0 (by decide)];decide)];rfl
theorem QW:b8 (aV 2 2 2 iI) 2= [((2:Nat):Int),((4:Nat):Int)]:=by
 rw [zD 2 y9];decide
theorem L8:∀a b,a<2→b<2→ln (iI a b)≤1048576:=fun i b hi hb=>by
 have o:∀i,i<2→i=0∨i=1:=fun i h=>by omega
 rcases o i hi with rfl | rfl <;> rcases o b hb with rfl | rfl <;> exact a7 (qJ (by decide) (by decide)) (by decide)
theorem KX {n1 n2 c1 c2:Nat}{x1 x2:Int}(hl:lb≤g)(hb:Bk w g 41 [.bool s1,By A1 n1 c1,.bool s2,By A2 n2 c2])(h1:Zr w b s1 A1 n1 c1 x1)(h2:Zr w b s2 A2 n2 c2 x2)(k1:n1≤K)(k2:n2≤K):Lz none K b w lb (some ⟨g,0,none⟩) 2 2 [x1,x2]:=
 ⟨[⟨s1,A1,n1,c1⟩,⟨s2,A2,n2,c2⟩],Own.mk_ hl hb (by decide) (by decide) G rfl,rfl,rfl,fun i hi=>by
  have h:i=0∨i=1:=by omega
  rcases h with rfl | rfl
  ·exact⟨k1,bE h1⟩
  ·exact⟨k2,bE h2⟩⟩
theorem DU:aR aJ 11 #[] w (Gv w (Is (BY))):=by
 have bo:w.heap.size≤w.heap.size:=aI _
 refine bQ Tryz.func11 G (n:=23) G (bq G) (args:= []) (bH [] Ht (sr (mv 1 G (aE (sr (cl (vs:= []) aB (MN (Ext.refl w).size bo) G (by kernel_rfl) fun _ v1 r3 _ ar=>?_))))))
 obtain⟨_,rfl,⟨ak,dh,rfl,ag⟩⟩:=r3
 have dn:=ag.block
 obtain⟨co,ah,ac,_⟩:∃lb,lb≤v1.heap.size∧v1.heap.size≤lb∧w.heap.size≤lb:=⟨v1.heap.size,aI _,aI _,ar.size⟩
 have dm:∀p:a6,ak=some p→p.block<co:=fun p hp=>cJ ((ag).block p hp).2 ac
 refine bR G G (vs:= [.agg #[AI 2,AI 2,By ak 4 dh]]) (by kernel_rfl) (by decide) (by have h:=y8 (n:=2) (cc:=2) (mm:=2) (X:=iI) ar.size ah G ((ag.zf0).mono (by decide)) G (by decide) (by decide) P3 L8;rw [K1,QW] at h;exact h) ?_
 rintro _ _ ⟨_,rfl,cm,ao⟩
 refine bL ?_
 have bc:=ar.trans ao
 obtain⟨_,_,_,rfl,rfl,⟨J,aj,_,rfl,U,ba⟩,r12_2⟩:=cm
 have dc:=U.block
 obtain rfl:=r12_2
 refine mv 1 G (pu (v:= AI ((2-2:Nat):Int)) G (pu (v:= By J 2 aj) G (pu (v:= AI 0) G (mv 3 G (aE (sr (mv 1 G (aN G G G true (by decide) (mv 2 G (aN G G G true (kD (a:=2-2) (b:=0) G G) (pu (v:= BY) G (mv 2 G (cl (vs:= [AT 2]) bc ((nQ (x:=2) bc.size)) G (by kernel_rfl) fun _ _ bu ae az=>?_)))))))))))))
 obtain⟨cn,cz,cg,bz,rfl,aw⟩:=bu
 refine cl (vs:= [AT 4]) az ((nQ (x:=4) az.size)) G (by kernel_rfl) fun _ aq cd aa av=>?_
 obtain⟨cx,bv,cj,cu,rfl,au⟩:=cd
 obtain⟨ab,I,o,_⟩:∃lb,lb≤aq.heap.size∧aq.heap.size≤lb∧w.heap.size≤lb:=⟨aq.heap.size,aI _,aI _,av.size⟩
 have ce:∀p:a6,ak=some p→p.block<ab:=fun p hp=>cJ (((ag.ext (ao.t (ae.t aa)))).block p hp).2 o
 have da:∀p:a6,J=some p→p.block<ab:=fun p hp=>cJ (((U.ext (ae.t aa))).block p hp).2 o
 refine jX G G (k:=2) (e:=41) [.bool cn,By cz cg bz,.bool cx,By bv cj cu] (fun _=>by kernel_rfl) fun bh _ nb=>?_
 have bj:ab≤bh:=by rw [←nb.at_];exact I
 have bi:=nb.bk
 have H:=nb.ext
 clear nb
 have df:=av.trans H
 have ai:=KX (K:=1) (b:=w.heap.size) bj bi (aw.ext (aa.t H)) (au.ext H) (aw.le (a7 (show ln ((2:Nat):Int)≤1 from oT) (by decide))) (au.le (a7 (show ln ((4:Nat):Int)≤1 from oT) (by decide)))
 have dl:=ai.block
 refine cl (vs:= [By J 2 aj,By (some ⟨bh,0,none⟩) 2 2]) df (MR (n:=2) (U.ext (ae.t (aa.t H))) (a7 (a7 (a7 (a7 ah ao.size) ae.size) aa.size) H.size) ai (a7 I H.size) (by decide) (fun i _=>by rw [ba.2])) G (by kernel_rfl) fun _ _ dd _ bw=>?_
 obtain rfl:=dd
 refine pu (v:= BY) G (mv 1 G (aE (bG (bF [BY] G ⟨rfl,Ht⟩ ?_))))
 exact⟨_,rfl,rfl,bw⟩
theorem DT (ha:Zr w b_a sa Aa na ca x)(hx:x≠0):aR aJ 16 #[O sa Aa na ca] w (Gv w (Is (Hs))):=by
 refine bQ Tryz.func16 G (n:=12) G (bq G) (args:= [O sa Aa na ca]) (bH [(0,O sa Aa na ca)] ⟨rfl,Ht⟩ (sr (bx (a4 sa Aa na ca) aB G G G fun H _ h _ _ o=>(mv 1 G (aE (aH ?_))))))
 have hn:=ha.len
 have I:na≠0:=fun e=>hx (xI (by rw [←hn,e]))
 refine aL (pf H 1 G (aK G G (aQ fT h G) (pu (v:= AI na) G (aN G G G false (kS (a:=na) (b:=0) G G) (mv 4 G (pu (v:= Hs) G (mv 1 G (aE (bG (bF [F0] G ⟨rfl,Ht⟩ ?_))))))))))
 exact⟨_,rfl,rfl,o⟩
theorem MU (ha:Zr w b_a sa Aa na ca x){nb cb:Nat}(hb:Zr w b_b sb Ab nb cb y)(lx:ln x≤68719476736)(ly:ln y≤68719476736)(hx0:x≠0)(hd:x∣y):aR aJ 19 #[O sa Aa na ca,O sb Ab nb cb] w (Gv w (Is (BY))):=by
 refine bQ Tryz.func19 G (n:=19) G (bq G) (args:= [O sa Aa na ca,O sb Ab nb cb]) (bH [(0,O sa Aa na ca),(1,O sb Ab nb cb)] ⟨rfl,rfl,Ht⟩ (sr (bx (a4 sa Aa na ca) aB G G G fun _ _ H _ e3 ar=>(mN (a4 sb Ab nb cb) ar H.lt G G G fun _ _ ab _ _ o ao=>(mv 1 G (aE (aH (sr (lo aG (H.ext o) (a4 sa Aa na ca) G G G (cl (vs:= [O sa Aa na ca]) ao (DT (ha.ext (e3.t o)) hx0) G (by kernel_rfl) fun _ _ au h U=>?_))))))))))
 obtain rfl:=au
 refine aE (aY G (bA (aM (sr (lo aG (ab.ext h) (a4 sb Ab nb cb) G G G (lo aG (H.ext (o.t h)) (a4 sa Aa na ca) G G G (cl (vs:= [O sb Ab nb cb,O sa Aa na ca]) U (qM U.size (hb.ext (e3.t (o.t h))).zi ((hb.ext (e3.t (o.t h))).le ly) (ha.ext (e3.t (o.t h))).zi ((ha.ext (e3.t (o.t h))).le lx) hx0 hd) G (by kernel_rfl) fun _ _ ai aq aj=>?_)))))))
 obtain⟨_,_,rfl,⟨ae,ac,aa,ag,rfl,_⟩,rfl⟩:=ai
 refine mv 1 G (pu (v:= O ae ac aa ag) G (pu (v:= AI 0) G (dG [F0,S0] aj (ab.ext (h.t aq)).lt (fun _=>by kernel_rfl) G fun _ _ I J _ _ av=>(so aG I (a4 ae ac aa ag) av J G G G G fun _ _ _ ak=>(mv 1 G (aE (sr (mv 1 G (aN G G G true (by decide) (mv 1 G (aE (bG (bF [BY] G ⟨rfl,Ht⟩ ?_)))))))))))))
 exact⟨_,rfl,rfl,ak⟩
theorem K0 (hn:ln x=1)(h:(wd x.natAbs).getD 0 0=1)(h0:0≤x):x=1:=by
 have o:(wd x.natAbs).length=1:=hn
 have I:=dQ x.natAbs
 match hw:wd x.natAbs,o with
 | [d],_=>
  rw [hw] at h I
  have H:d=1:=h
  subst H
  have:nv [1]=1:=by decide
  omega
theorem MS (ha:Zr w b_a sa Aa na ca x)(hx:x=1):aR aJ 17 #[O sa Aa na ca] w (Gv w (Is (BY))):=by
 refine bQ Tryz.func17 G (n:=19) G (bq G) (args:= [O sa Aa na ca]) (bH [(0,O sa Aa na ca)] ⟨rfl,Ht⟩ (sr (bx (a4 sa Aa na ca) aB G G G fun o _ h _ e3 I=>(mv 1 G (aE (aH ?_))))))
 have hn:=ha.len
 subst hx
 obtain rfl:na=1:=by rw [hn];exact tL
 obtain rfl:sa=false:=by rw [ha.sgn];rfl
 have U:(wd (Int.natAbs 1)).getD 0 0=1:=by decide+kernel
 refine aL (pf o 1 G (aK G G (aQ fT h G) (pu (v:= AI 1) G (aN G G G true (kD (a:=1) (b:=1) G G) (mv 1 G (pf o 1 G (aK G G (aQ fT h G) ?_)))))))
 obtain⟨p6,J,H,_⟩:=((ha.ext e3)).rd.at (i:=0) (by omega)
 refine aX G G G pS pU 0 G p6 J (aK G G (cP rI H) (aN G G G true (kD (a:=(wd (Int.natAbs 1)).getD 0 0) (b:=1) G G) (pu (v:= BY) G (mv 1 G (pf o 0 G (aK G G (aQ fU h G) (pu (v:= BY) G (pu (v:= BY) G (mv 1 G (aE (bG (bF [BY] G ⟨rfl,Ht⟩ ?_))))))))))))
 exact⟨_,rfl,rfl,I⟩
theorem MT (ha:Zr w b_a sa Aa na ca x)(h0:0≤x)(hx:x≠1):aR aJ 17 #[O sa Aa na ca] w (Gv w (Is (Hs))):=by
 refine bQ Tryz.func17 G (n:=19) G (bq G) (args:= [O sa Aa na ca]) (bH [(0,O sa Aa na ca)] ⟨rfl,Ht⟩ (sr (bx (a4 sa Aa na ca) aB G G G fun H _ h _ U o=>(mv 1 G (aE (aH ?_))))))
 have hn:=ha.len
 by_cases h1n:na=1
 ·have aa:(wd (Int.natAbs x)).getD 0 0≠1:=fun e=>hx (K0 (by rw [←hn,h1n]) e h0)
  refine aL (pf H 1 G (aK G G (aQ fT h G) (pu (v:= AI na) G (aN G G G true (kD (a:=na) (b:=1) G G) (mv 1 G (pf H 1 G (aK G G (aQ fT h G) ?_)))))))
  obtain⟨p6,J,I,_⟩:=((ha.ext U)).rd.at (i:=0) (by omega)
  refine aX G G G pS pU 0 G p6 J (aK G G (cP rI I) (aN G G G false (kS (a:=(wd (Int.natAbs x)).getD 0 0) (b:=1) G G) (pu (v:= Hs) G (mv 4 G (pu (v:= Hs) G (mv 1 G (aE (bG (bF [F0] G ⟨rfl,Ht⟩ ?_)))))))))
  exact⟨_,rfl,rfl,o⟩
 ·refine aL (pf H 1 G (aK G G (aQ fT h G) (pu (v:= AI na) G (aN G G G false (kS (a:=na) (b:=1) G G) (mv 6 G (pu (v:= Hs) G (mv 4 G (pu (v:= Hs) G (mv 1 G (aE (bG (bF [F0] G ⟨rfl,Ht⟩ ?_))))))))))))
  exact⟨_,rfl,rfl,o⟩
theorem MZ (hxa:ZF w Aa na capa 1048576 xs)(hna1:na≤1048576)(hs:¬j3 R C na):aR aJ 4 #[.agg #[AI R,AI C,By Aa na capa]] w (Gv w (Is (BY))):=by
 have az:w.heap.size≤w.heap.size:=aI _
 have aw:=hxa
 obtain⟨msa,ak,ai⟩:=hxa
 refine bQ Tryz.func4 G (n:=150) G (bq G) (args:= [.agg #[AI R,AI C,By Aa na capa]]) (bH [(0,.agg #[AI R,AI C,By Aa na capa])] ⟨rfl,Ht⟩ (sr (bx [AI R,AI C,By Aa na capa] aB G G G fun g1 _ o _ _ ao=>(mv 1 G (aE (aH (sr (bR G G (vs:= []) (by kernel_rfl) (by decide) DU ?_))))))))
 rintro _ v6 ⟨_,rfl,r8,e7⟩
 refine bL ?_
 have h:=ao.trans e7
 obtain rfl:=r8
 refine pu (v:= Hs) G (aE (aY G (bA (aM (sr (lo bS (o.ext e7) [AI R,AI C,By Aa na capa] G G G ?_))))))
 obtain⟨_,J,_,_,_⟩:∃lb,lb≤v6.heap.size∧v6.heap.size≤lb∧w.heap.size≤lb∧g1<lb:=⟨v6.heap.size,aI _,aI _,h.size,(o.ext e7).lt⟩
 refine cl (vs:= [.agg #[AI R,AI C,By Aa na capa]]) h (qO (w0:=w) h.size J h ((show ZF w _ _ _ _ _ from⟨msa,ak,ai⟩).ext h)) G (by kernel_rfl) fun _ _ ar ab ah=>?_
 obtain⟨_,rfl,⟨I,U,rfl,H⟩⟩:=ar
 have aj:=H.block
 refine cl (vs:= [.agg #[AI R,AI C,By I na U]]) ah (OE hs) G (by kernel_rfl) fun _ _ ac av ag=>?_
 obtain⟨_,_,_,rfl,rfl,rfl,rfl⟩:=ac
 refine mv 1 G (pu (v:= AI 0) G (pu (v:= By none 0 0) G (pu (v:= AI 1) G (mv 3 G (aE (aH (sr (lo bS (o.ext (e7.t (ab.t av))) [AI R,AI C,By Aa na capa] G G G (cl (vs:= [.agg #[AI R,AI C,By Aa na capa]]) ag (MP hs) G (by kernel_rfl) fun _ _ aq _ au=>?_)))))))))
 obtain rfl:=aq
 refine pu (v:= BY) G (aE (bJ G (sr (mv 1 G (aN G G G true (by decide) (mv 1 G (aE (bG (dZ (bF [BY] G ⟨rfl,Ht⟩ ?_))))))))))
 exact⟨_,rfl,rfl,au⟩
section
variable {f:Nat→Int}{i m:Nat}
theorem uG:∀t,∃l,b8 f (i+t)=b8 f i++l
 | 0=>⟨[],by rw [Nat.add_zero,List.append_nil]⟩
 | t+1=>by
  obtain⟨l,hl⟩:=uG t
  by_cases h:1<f (i+t)
  ·exact⟨l++ [f (i+t)],by rw [←jU,jP h,hl,List.append_assoc]⟩
  ·exact⟨l,by rw [←jU,lM h,hl]⟩
theorem QZ (hi:i<m)(h:1<f i):(b8 f i).length<(b8 f m).length∧(b8 f m).getD (b8 f i).length 0=f i:=by
 obtain⟨l,hl⟩:=uG (f:=f) (i:=i+1) (m-(i+1))
 rw [show i+1+(m-(i+1))=m by omega,jP h] at hl
 rw [hl]
 refine⟨by rw [kI,kI];simp only [iE,List.length_nil];omega,?_⟩
 rw [List.append_assoc,bO,List.getElem?_append_right (aI _),Nat.sub_self]
 rfl
theorem zC:∀n,∀x∈b8 f n,∃l,l<n∧x=f l
 | 0,x,h=>by cases h
 | n+1,x,h=>by
  by_cases h1:1<f n
  ·rw [jP h1,List.mem_append] at h
   rcases h with h | h
   ·obtain⟨l,hl,e⟩:=zC n x h
    exact⟨l,by omega,e⟩
   ·exact⟨n,by omega,List.mem_singleton.1 h⟩
  ·rw [lM h1] at h
   obtain⟨l,hl,e⟩:=zC n x h
   exact⟨l,by omega,e⟩
theorem QX (hi:i≤m):(b8 f m).take (b8 f i).length=b8 f i:=by
 obtain⟨t,h⟩:=uG (f:=f) (i:=i) (m-i)
 rw [show i+(m-i)=m by omega] at h
 rw [h,List.take_append_of_le_length (aI _),List.take_length]
theorem QY (hi:i≤m)(h:0<(b8 f i).length):∃l,l<i∧(b8 f m).getD ((b8 f i).length-1) 0=f l:=by
 obtain⟨t,H⟩:=uG (f:=f) (i:=i) (m-i)
 rw [show i+(m-i)=m by omega] at H
 have o:(b8 f i).length-1<(b8 f i).length:=by omega
 have e:(b8 f m).getD ((b8 f i).length-1) 0=(b8 f i)[(b8 f i).length-1]:=by
  rw [H,bO,List.getElem?_append_left o,List.getElem?_eq_getElem o];rfl
 rw [e]
 exact zC i _ (List.getElem_mem o)
theorem Fc.lpl {v:Nat→Int}(h:Fc n c m X v)(hi:i≤m):ln (fQ (b8 v i))≤136323396:=by
 have:=h.part (b8 v i).length
 rwa [QX hi] at this
theorem Fc.vl {v:Nat→Int}(h:Fc n c m X v)(hi:i<m):ln (v i)≤136323396:=by
 by_cases H:v i=0
 ·rw [H];exact bX _
 ·have o:=qH (f:=fun a=>nz (v a)) hi
  rw [show nz (v i)=v i from if_neg H] at o
  exact nK o (wQ m) h.pl
end
theorem xL (hn:n≤64)(hX:∀i j,i<n→j<n→ln (X i j)≤1048576):ln (dt n X)≤134217728:=a7 (mI n X hX) (by have:=fV (show n≤64 by omega) (show 1048576+n≤1048640 by omega);omega)
theorem OJ (hnc:n=cc)(hb:b≤w.heap.size)(hxa:ZF w Aa na capa 1048576 xs)(hna:na=n*cc)(hn:n≤64)(hX:En n cc X xs):aR aJ 21 #[.agg #[AI n,AI cc,By Aa na capa]] w (Gv w (T2 (ZR b (dt n X)) (Is (AI 0)))):=by
 subst hnc
 exact OK hb hxa hna hn hX
theorem OU {v:Nat→Int}(hm:m=min n cc)(hnc:n=cc)(h:Fc n cc m X v)(hr:cc≤cR v m):fQ (b8 v m)=(Int.natAbs (dt n X):Int):=by
 subst hnc
 obtain rfl:m=n:=by omega
 have:=mD (f:=v) m
 exact h.size (by omega)
theorem MY {mm:Nat}(hmm:mm=min n cc)(hxa:ZF w Aa na capa 1048576 xs)(hna:na=n*cc)(hn:n≤64)(hcc:cc≤64)(hX:En n cc X xs)(hXa:∀a b,a<n→b<cc→ln (X a b)≤1048576)(hna1:na≤1048576):aR aJ 4 #[.agg #[AI n,AI cc,By Aa na capa]] w (Gv w (Is (BY))):=by
 have we:w.heap.size≤w.heap.size:=aI _
 have vv:=hxa
 have hs:j3 ((n:Nat):Int) ((cc:Nat):Int) na:=sU hn hcc hna
 obtain⟨msa,mj,lm⟩:=hxa
 refine bQ Tryz.func4 G (n:=150) G (bq G) (args:= [.agg #[AI n,AI cc,By Aa na capa]]) (bH [(0,.agg #[AI n,AI cc,By Aa na capa])] ⟨rfl,Ht⟩ (sr (bx [AI n,AI cc,By Aa na capa] aB G G G fun g1 _ gy _ _ jh=>(mv 1 G (aE (aH (sr (bR G G (vs:= []) (by kernel_rfl) (by decide) DU ?_))))))))
 rintro _ v6 ⟨_,rfl,r8,e7⟩
 refine bL ?_
 have bg:=jh.trans e7
 obtain rfl:=r8
 refine pu (v:= Hs) G (aE (aY G (bA (aM (sr (lo bS (gy.ext e7) [AI n,AI cc,By Aa na capa] G G G ?_))))))
 obtain⟨ma,je,_,_,_⟩:∃lb,lb≤v6.heap.size∧v6.heap.size≤lb∧w.heap.size≤lb∧g1<lb:=⟨v6.heap.size,aI _,aI _,bg.size,(gy.ext e7).lt⟩
 refine cl (vs:= [.agg #[AI n,AI cc,By Aa na capa]]) bg (qO (w0:=w) bg.size je bg ((show ZF w _ _ _ _ _ from⟨msa,mj,lm⟩).ext bg)) G (by kernel_rfl) fun _ _ uv fy da=>?_
 obtain⟨_,rfl,⟨ag,kd,rfl,fo⟩⟩:=uv
 have nw:=fo.block
 refine cl (vs:= [.agg #[AI n,AI cc,By ag na kd]]) da (y8 (X:=X) da.size (a7 je fy.size) hmm ((fo).zf da) hna hn hcc hX hXa) G (by kernel_rfl) fun _ _ vb eg cz=>?_
 obtain⟨_,_,_,rfl,rfl,⟨I,ak,bj,rfl,gg,td⟩,r19_2⟩:=vb
 have od:=gg.block
 obtain rfl:=r19_2
 refine mv 1 G (pu (v:= AI ((cc-cR (aV n cc mm X) mm:Nat):Int)) G (pu (v:= By I ((b8 (aV n cc mm X) mm).length) ak) G (pu (v:= AI 0) G (mv 3 G (aE (aH (sr (lo bS (gy.ext (e7.t (fy.t eg))) [AI n,AI cc,By Aa na capa] G G G (cl (vs:= [.agg #[AI n,AI cc,By Aa na capa]]) cz (MO hs) G (by kernel_rfl) fun _ qm um bv az=>?_)))))))))
 obtain rfl:=um
 refine pu (v:= Hs) G (aE (aY G (bA (aM (sr (lo bS (gy.ext (e7.t (fy.t (eg.t bv)))) [AI n,AI cc,By Aa na capa] G G G ?_))))))
 obtain⟨fz,ii,im,_,_⟩:∃lb,lb≤qm.heap.size∧qm.heap.size≤lb∧w.heap.size≤lb∧g1<lb:=⟨qm.heap.size,aI _,aI _,az.size,(gy.ext (e7.t (fy.t (eg.t bv)))).lt⟩
 have ky:∀p:a6,ag=some p→p.block<fz:=fun p hp=>cJ (((fo.ext (eg.t bv))).block p hp).2 im
 have kk:∀p:a6,I=some p→p.block<fz:=fun p hp=>cJ (((gg.ext bv)).block p hp).2 im
 refine cl (vs:= [.agg #[AI n,AI cc,By Aa na capa]]) az (qO (w0:=w) az.size ii az ((show ZF w _ _ _ _ _ from⟨msa,mj,lm⟩).ext az)) G (by kernel_rfl) fun _ _ vm cj eh=>?_
 obtain⟨_,rfl,⟨ai,ki,rfl,ge⟩⟩:=vm
 have ix:=ge.block
 refine cl (vs:= [.agg #[AI n,AI cc,By ai na ki]]) eh (DX (X:=X) eh.size (a7 ii cj.size) hmm ((ge).zf eh) hna hn hcc hX hXa) G (by kernel_rfl) fun _ oe uh ba fe=>?_
 obtain⟨_,_,rfl,⟨U,bu,gc,rfl,il,nm⟩,r37_1⟩:=uh
 have iw:=il.block
 obtain rfl:=r37_1
 refine mv 1 G (pu (v:= By U mm bu) G (pu (v:= AI 0) G (mv 2 G (aE (sr (lo bS (gy.ext (e7.t (fy.t (eg.t (bv.t (cj.t ba)))))) [AI n,AI cc,By Aa na capa] G G G ?_))))))
 obtain⟨gj,kw,dw,_,_⟩:∃lb,lb≤oe.heap.size∧oe.heap.size≤lb∧w.heap.size≤lb∧g1<lb:=⟨oe.heap.size,aI _,aI _,fe.size,(gy.ext (e7.t (fy.t (eg.t (bv.t (cj.t ba)))))).lt⟩
 have nu:∀p:a6,ag=some p→p.block<gj:=fun p hp=>cJ (((fo.ext (eg.t (bv.t (cj.t ba))))).block p hp).2 dw
 have qp:∀p:a6,I=some p→p.block<gj:=fun p hp=>cJ (((gg.ext (bv.t (cj.t ba)))).block p hp).2 dw
 have oh:∀p:a6,ai=some p→p.block<gj:=fun p hp=>cJ (((ge.ext ba)).block p hp).2 dw
 have oa:∀p:a6,U=some p→p.block<gj:=fun p hp=>cJ ((il).block p hp).2 dw
 refine cl (vs:= [.agg #[AI n,AI cc,By Aa na capa]]) fe (qO (w0:=w) fe.size kw fe ((show ZF w _ _ _ _ _ from⟨msa,mj,lm⟩).ext fe)) G (by kernel_rfl) fun _ _ vn bh ji=>?_
 obtain⟨_,rfl,⟨ae,kb,rfl,iq⟩⟩:=vn
 have fh:=iq.block
 refine cl (vs:= [.agg #[AI n,AI cc,By ae na kb]]) ji (OD (X:=X) ji.size ji.size hmm ((iq).zf ji) hna hn hcc hX hXa) G (by kernel_rfl) fun _ _ vi au qr=>?_
 obtain⟨_,_,rfl,⟨cg,cu,cm,co,rfl,vp⟩,rfl⟩:=vi
 refine mv 1 G (pu (v:= O cg cu cm co) G (pu (v:= AI 0) G (dM G (z:= .agg #[F0,S0]) (vs:= [F0,S0]) (fun _=>by kernel_rfl) G fun bz _ nb=>?_)))
 have bo:=nb.bk
 have rj:w.heap.size≤bz:=by rw [←nb.at_];exact qr.size
 have wm:g1<bz:=by rw [←nb.at_];exact (gy.ext (e7.t (fy.t (eg.t (bv.t (cj.t (ba.t (bh.t au)))))))).lt
 have ko:∀p:a6,ag=some p→p.block≠bz:=fun p hp=>by have:=((fo.ext (eg.t (bv.t (cj.t (ba.t (bh.t au))))))).block p hp;have:=nb.at_;omega
 have kq:∀p:a6,I=some p→p.block≠bz:=fun p hp=>by have:=((gg.ext (bv.t (cj.t (ba.t (bh.t au)))))).block p hp;have:=nb.at_;omega
 have jw:∀p:a6,ai=some p→p.block≠bz:=fun p hp=>by have:=((ge.ext (ba.t (bh.t au)))).block p hp;have:=nb.at_;omega
 have jz:∀p:a6,U=some p→p.block≠bz:=fun p hp=>by have:=((il.ext (bh.t au))).block p hp;have:=nb.at_;omega
 have kx:∀p:a6,ae=some p→p.block≠bz:=fun p hp=>by have:=((iq.ext au)).block p hp;have:=nb.at_;omega
 have bw:=nb.ext
 clear nb
 have su:=qr.trans bw
 refine so aG bo (a4 cg cu cm co) su rj G G G G fun _ nt cx mt=>(mv 1 G (aE (aH (sr (mv 1 G (aN G G G false (by decide) (mv 2 G (aN G G G false (by decide) (pu (v:= Hs) G (mv 2 G (aN G G G false (by decide) (pu (v:= Hs) G (aS ?_)))))))))))))
 refine aM (aY G (bA (aM (sr (mv 2 G (aE (sr (cl (vs:= [AT 1]) mt ((nQ (x:=1) mt.size)) G (by kernel_rfl) fun _ _ vh bi nf=>?_))))))))
 obtain⟨mc,lh,lf,lu,rfl,uy⟩:=vh
 refine dM G (z:= .agg #[F0,S0]) (vs:= [F0,S0]) (fun _=>by kernel_rfl) G fun ce _ nb=>?_
 have fb:=nb.bk
 have jt:w.heap.size≤ce:=by rw [←nb.at_];exact nf.size
 have wn:bz<ce:=by rw [←nb.at_];exact (nt.ext bi).lt
 have nh:∀p:a6,ag=some p→p.block≠ce:=fun p hp=>by have:=((((fo.ext (eg.t (bv.t (cj.t (ba.t (bh.t (au.t bw))))))).updT bo cx ko).ext bi)).block p hp;have:=nb.at_;omega
 have mq:∀p:a6,I=some p→p.block≠ce:=fun p hp=>by have:=((((gg.ext (bv.t (cj.t (ba.t (bh.t (au.t bw)))))).updT bo cx kq).ext bi)).block p hp;have:=nb.at_;omega
 have ni:∀p:a6,ai=some p→p.block≠ce:=fun p hp=>by have:=((((ge.ext (ba.t (bh.t (au.t bw)))).updT bo cx jw).ext bi)).block p hp;have:=nb.at_;omega
 have my:∀p:a6,U=some p→p.block≠ce:=fun p hp=>by have:=((((il.ext (bh.t (au.t bw))).updT bo cx jz).ext bi)).block p hp;have:=nb.at_;omega
 have nd:∀p:a6,ae=some p→p.block≠ce:=fun p hp=>by have:=((((iq.ext (au.t bw)).updT bo cx kx).ext bi)).block p hp;have:=nb.at_;omega
 have df:=nb.ext
 clear nb
 have rq:=nf.trans df
 refine so aG fb (a4 mc lh lf lu) rq jt G G G G fun vg qu du tg=>(aE (aH (sr (mv 1 G (aE (bB ?_))))))
 have fx:=nm.1
 have uz:=nm.2
 have tb:=td.2
 have wg:=rK (f:=aV n cc mm X) mm
 refine d6 (T:=a0×Nat×Nat×Nat×Bool×Option a6×Nat×Nat×Int) (fun⟨wr,i,rk,H,sv,Av,nv,cv,pz⟩=> [(0,.agg #[AI n,AI cc,By Aa na capa]),(1,a9 g1 0),(2,Hs),(3,AI ((cc-cR (aV n cc mm X) mm:Nat):Int)),(4,By I ((b8 (aV n cc mm X) mm).length) ak),(5,AI 0),(6,By U mm bu),(7,AI 0),(8,a9 bz 0),(9,AI 0),(10,AI rk),(11,AI H),(12,a9 ce 0),(13,AI i),(15,BY),(16,Hs),(17,.tuple #[AI ((cc-cR (aV n cc mm X) mm:Nat):Int),By I ((b8 (aV n cc mm X) mm).length) ak,I0]),(18,.agg #[AI n,AI cc,By Aa na capa]),(19,.agg #[AI n,AI cc,By ag na kd]),(20,.tuple #[AI ((cc-cR (aV n cc mm X) mm:Nat):Int),By I ((b8 (aV n cc mm X) mm).length) ak,I0]),(21,AI ((cc-cR (aV n cc mm X) mm:Nat):Int)),(22,By I ((b8 (aV n cc mm X) mm).length) ak),(23,AI 0),(24,.agg #[AI n,AI cc,By Aa na capa]),(25,BY),(26,Hs),(29,.tuple #[By U mm bu,I0]),(30,.agg #[AI n,AI cc,By Aa na capa]),(31,.agg #[AI n,AI cc,By ai na ki]),(32,.tuple #[By U mm bu,I0]),(33,By U mm bu),(34,AI 0),(35,.tuple #[O cg cu cm co,I0]),(36,.agg #[AI n,AI cc,By Aa na capa]),(37,.agg #[AI n,AI cc,By ae na kb]),(38,.tuple #[O cg cu cm co,I0]),(39,O cg cu cm co),(40,AI 0),(41,AI 0),(42,Hs),(43,Hs),(44,AI 0),(45,Hs),(46,Hs),(47,Hs),(48,AI 0),(49,Hs),(50,Hs),(51,O mc lh lf lu)]) (fun⟨wr,i,rk,H,sv,Av,nv,cv,pz⟩=>wr) (fun⟨wr,i,rk,H,sv,Av,nv,cv,pz⟩=>(Ext w wr)∧(i≤mm)∧(Bk wr g1 24 [AI n,AI cc,By Aa na capa])∧(Bk wr bz 41 (a4 cg cu cm co))∧(Zr wr w.heap.size cg cu cm co (if cc-cR (aV n cc mm X) mm=0 then fQ (b8 (aV n cc mm X) mm) else 0))∧(Bk wr ce 41 (a4 sv Av nv cv))∧(Zr wr w.heap.size sv Av nv cv (pz))∧(ma≤wr.heap.size)∧(Lz (some w) 1048576 w.heap.size wr ma ag na _ xs)∧(∀p:a6,ag=some p→p.block≠g1)∧(∀p:a6,ag=some p→p.block≠bz)∧(∀p:a6,ag=some p→p.block≠ce)∧(ma≤wr.heap.size)∧(Lz none 17179869184 w.heap.size wr ma I ((b8 (aV n cc mm X) mm).length) ak bj)∧(∀p:a6,I=some p→p.block≠g1)∧(∀p:a6,I=some p→p.block≠bz)∧(∀p:a6,I=some p→p.block≠ce)∧(fz≤wr.heap.size)∧(Lz (some w) 1048576 w.heap.size wr fz ai na _ xs)∧(∀p:a6,ai=some p→p.block≠g1)∧(∀p:a6,ai=some p→p.block≠bz)∧(∀p:a6,ai=some p→p.block≠ce)∧(fz≤wr.heap.size)∧(Lz none 17179869184 w.heap.size wr fz U mm bu gc)∧(∀p:a6,U=some p→p.block≠g1)∧(∀p:a6,U=some p→p.block≠bz)∧(∀p:a6,U=some p→p.block≠ce)∧(gj≤wr.heap.size)∧(Lz (some w) 1048576 w.heap.size wr gj ae na _ xs)∧(∀p:a6,ae=some p→p.block≠g1)∧(∀p:a6,ae=some p→p.block≠bz)∧(∀p:a6,ae=some p→p.block≠ce)∧(∀p q:a6,ai=some p→ag=some q→p.block≠q.block)∧(∀p q:a6,ai=some p→I=some q→p.block≠q.block)∧(∀p q:a6,U=some p→ag=some q→p.block≠q.block)∧(∀p q:a6,U=some p→I=some q→p.block≠q.block)∧(∀p q:a6,ae=some p→ag=some q→p.block≠q.block)∧(∀p q:a6,ae=some p→I=some q→p.block≠q.block)∧(∀p q:a6,ae=some p→ai=some q→p.block≠q.block)∧(∀p q:a6,ae=some p→U=some q→p.block≠q.block)∧(rk=cR (aV n cc mm X) i)∧(H=(b8 (aV n cc mm X) i).length)∧(pz=fQ (b8 (aV n cc mm X) i))) (fun⟨wr,i,rk,H,sv,Av,nv,cv,pz⟩=>mm-i)
  (⟨vg,0,0,0,mc,lh,lf,lu,((1:Nat):Int)⟩:a0×Nat×Nat×Nat×Bool×Option a6×Nat×Nat×Int) ⟨tg,(by omega),((((gy.ext (e7.t (fy.t (eg.t (bv.t (cj.t (ba.t (bh.t (au.t bw))))))))).vN cx).ext (bi.t df)).vN du),((nt.ext (bi.t df)).vN du),((((vp.ext bw).updT bo cx).ext (bi.t df)).updT fb du),qu,((uy.ext df).updT fb du),(a7 (a7 (a7 (a7 (a7 (a7 (a7 (a7 (a7 (a7 (a7 (a7 je fy.size) eg.size) bv.size) cj.size) ba.size) bh.size) au.size) bw.size) cx.by_.size) bi.size) df.size) du.by_.size),((((fo.ext (eg.t (bv.t (cj.t (ba.t (bh.t (au.t bw))))))).updT bo cx ko).ext (bi.t df)).updT fb du nh),(show∀p:a6,ag=some p→p.block≠g1 from fun p hp=>by have:=nw p hp;omega),ko,nh,(a7 (a7 (a7 (a7 (a7 (a7 (a7 (a7 (a7 (a7 (a7 (a7 je fy.size) eg.size) bv.size) cj.size) ba.size) bh.size) au.size) bw.size) cx.by_.size) bi.size) df.size) du.by_.size),((((gg.ext (bv.t (cj.t (ba.t (bh.t (au.t bw)))))).updT bo cx kq).ext (bi.t df)).updT fb du mq),(show∀p:a6,I=some p→p.block≠g1 from fun p hp=>by have:=od p hp;omega),kq,mq,(a7 (a7 (a7 (a7 (a7 (a7 (a7 (a7 (a7 ii cj.size) ba.size) bh.size) au.size) bw.size) cx.by_.size) bi.size) df.size) du.by_.size),((((ge.ext (ba.t (bh.t (au.t bw)))).updT bo cx jw).ext (bi.t df)).updT fb du ni),(show∀p:a6,ai=some p→p.block≠g1 from fun p hp=>by have:=ix p hp;omega),jw,ni,(a7 (a7 (a7 (a7 (a7 (a7 (a7 (a7 (a7 ii cj.size) ba.size) bh.size) au.size) bw.size) cx.by_.size) bi.size) df.size) du.by_.size),((((il.ext (bh.t (au.t bw))).updT bo cx jz).ext (bi.t df)).updT fb du my),(show∀p:a6,U=some p→p.block≠g1 from fun p hp=>by have:=iw p hp;omega),jz,my,(a7 (a7 (a7 (a7 (a7 (a7 (a7 kw bh.size) au.size) bw.size) cx.by_.size) bi.size) df.size) du.by_.size),((((iq.ext (au.t bw)).updT bo cx kx).ext (bi.t df)).updT fb du nd),(show∀p:a6,ae=some p→p.block≠g1 from fun p hp=>by have:=fh p hp;omega),kx,nd,(show∀p q:a6,ai=some p→ag=some q→p.block≠q.block from fun p q hp hq=>by have:=ix p hp;have:=ky q hq;omega),(show∀p q:a6,ai=some p→I=some q→p.block≠q.block from fun p q hp hq=>by have:=ix p hp;have:=kk q hq;omega),(show∀p q:a6,U=some p→ag=some q→p.block≠q.block from fun p q hp hq=>by have:=iw p hp;have:=ky q hq;omega),(show∀p q:a6,U=some p→I=some q→p.block≠q.block from fun p q hp hq=>by have:=iw p hp;have:=kk q hq;omega),(show∀p q:a6,ae=some p→ag=some q→p.block≠q.block from fun p q hp hq=>by have:=fh p hp;have:=nu q hq;omega),(show∀p q:a6,ae=some p→I=some q→p.block≠q.block from fun p q hp hq=>by have:=fh p hp;have:=qp q hq;omega),(show∀p q:a6,ae=some p→ai=some q→p.block≠q.block from fun p q hp hq=>by have:=fh p hp;have:=oh q hq;omega),(show∀p q:a6,ae=some p→U=some q→p.block≠q.block from fun p q hp hq=>by have:=fh p hp;have:=oa q hq;omega),rfl,rfl,rfl⟩ G ⟨rfl,rfl,rfl,rfl,rfl,rfl,rfl,rfl,rfl,rfl,rfl,rfl,rfl,rfl,rfl,rfl,rfl,rfl,rfl,rfl,rfl,rfl,rfl,rfl,rfl,rfl,rfl,rfl,rfl,rfl,rfl,rfl,rfl,rfl,rfl,rfl,rfl,rfl,rfl,rfl,rfl,rfl,rfl,rfl,rfl,rfl,rfl,rfl,rfl,Ht⟩ ?_
 rintro⟨wr,i,rk,H,sv,Av,nv,cv,pz⟩ ⟨jh,mx,b_g1,b_g56,z_g56,b_g76,z_g76,l_LA14b,l_LA14,l_LA14_g1,l_LA14_g56,l_LA14_g76,l_LA20b,l_LA20,l_LA20_g1,l_LA20_g56,l_LA20_g76,l_LA32b,l_LA32,l_LA32_g1,l_LA32_g56,l_LA32_g76,l_LA38b,l_LA38,l_LA38_g1,l_LA38_g56,l_LA38_g76,l_LA49b,l_LA49,l_LA49_g1,l_LA49_g56,l_LA49_g76,d_l_LA32_l_LA14,d_l_LA32_l_LA20,d_l_LA38_l_LA14,d_l_LA38_l_LA20,d_l_LA49_l_LA14,d_l_LA49_l_LA20,d_l_LA49_l_LA32,d_l_LA49_l_LA38,jl,ir,gt⟩
 refine d4 [(0,.agg #[AI n,AI cc,By Aa na capa]),(1,a9 g1 0),(2,Hs),(3,AI ((cc-cR (aV n cc mm X) mm:Nat):Int)),(4,By I ((b8 (aV n cc mm X) mm).length) ak),(5,AI 0),(6,By U mm bu),(7,AI 0),(8,a9 bz 0),(9,AI 0),(10,AI rk),(11,AI H),(12,a9 ce 0),(13,AI i),(15,BY),(16,Hs),(17,.tuple #[AI ((cc-cR (aV n cc mm X) mm:Nat):Int),By I ((b8 (aV n cc mm X) mm).length) ak,I0]),(18,.agg #[AI n,AI cc,By Aa na capa]),(19,.agg #[AI n,AI cc,By ag na kd]),(20,.tuple #[AI ((cc-cR (aV n cc mm X) mm:Nat):Int),By I ((b8 (aV n cc mm X) mm).length) ak,I0]),(21,AI ((cc-cR (aV n cc mm X) mm:Nat):Int)),(22,By I ((b8 (aV n cc mm X) mm).length) ak),(23,AI 0),(24,.agg #[AI n,AI cc,By Aa na capa]),(25,BY),(26,Hs),(29,.tuple #[By U mm bu,I0]),(30,.agg #[AI n,AI cc,By Aa na capa]),(31,.agg #[AI n,AI cc,By ai na ki]),(32,.tuple #[By U mm bu,I0]),(33,By U mm bu),(34,AI 0),(35,.tuple #[O cg cu cm co,I0]),(36,.agg #[AI n,AI cc,By Aa na capa]),(37,.agg #[AI n,AI cc,By ae na kb]),(38,.tuple #[O cg cu cm co,I0]),(39,O cg cu cm co),(40,AI 0),(41,AI 0),(42,Hs),(43,Hs),(44,AI 0),(45,Hs),(46,Hs),(47,Hs),(48,AI 0),(49,Hs),(50,Hs),(51,O mc lh lf lu)] wr G ⟨rfl,rfl,rfl,rfl,rfl,rfl,rfl,rfl,rfl,rfl,rfl,rfl,rfl,rfl,rfl,rfl,rfl,rfl,rfl,rfl,rfl,rfl,rfl,rfl,rfl,rfl,rfl,rfl,rfl,rfl,rfl,rfl,rfl,rfl,rfl,rfl,rfl,rfl,rfl,rfl,rfl,rfl,rfl,rfl,rfl,rfl,rfl,rfl,rfl,Ht⟩ ?_
 have uq:=l_LA14.block
 have vq:=l_LA20.block
 have vj:=l_LA32.block
 have ut:=l_LA38.block
 have vr:=l_LA49.block
 refine aH (aH ?_)
 by_cases jj:i<mm
 ·refine aL (mv 2 G (pu (v:= AI mm) G (aN G G G true (dB (a:=i) (b:=mm) G G) (aE (bJ G (bA (aM (aH (bB (aH (aH ?_)))))))))))
  have fd:gc.getD i 0=(aV n cc mm X) i:=uz i jj
  have qq:=fx.nn i jj
  have vf:=mD (f:=aV n cc mm X) i
  have vt:=rK (f:=aV n cc mm X) i
  by_cases ip:gc.getD i 0=0
  ·refine aL (mv 2 G ?_)
   obtain⟨sn,tw,tk,tv,qt,py,om,qh,se⟩:=(l_LA38).at (i:=i) (by omega)
   have mr:=se.zr
   have vw:ln (gc.getD i 0)≤17179869184:=mr.ln_le qh
   refine aX G G G bM aG.size i G sn py (aK G G (om _ aB _ _ aG) (cl (vs:= [O tw tk tv qt]) jh (DS mr ip) G (by kernel_rfl) fun _ ur tr dc bg=>?_))
   obtain rfl:=tr
   refine aE (bJ G (cM (cK (cL (aM (aL (mv 1 G (bC G G G ((i+1:Nat):Int) (bW (a:=i) (b:=1) G G) (mv 1 G (aS (cB (⟨ur,i+1,rk,H,sv,Av,nv,cv,pz⟩:a0×Nat×Nat×Nat×Bool×Option a6×Nat×Nat×Int) ⟨bg,(by omega),(b_g1.ext dc),(b_g56.ext dc),(z_g56.ext dc),(b_g76.ext dc),(z_g76.ext dc),(a7 l_LA14b dc.size),(l_LA14.ext dc),l_LA14_g1,l_LA14_g56,l_LA14_g76,(a7 l_LA20b dc.size),(l_LA20.ext dc),l_LA20_g1,l_LA20_g56,l_LA20_g76,(a7 l_LA32b dc.size),(l_LA32.ext dc),l_LA32_g1,l_LA32_g56,l_LA32_g76,(a7 l_LA38b dc.size),(l_LA38.ext dc),l_LA38_g1,l_LA38_g56,l_LA38_g76,(a7 l_LA49b dc.size),(l_LA49.ext dc),l_LA49_g1,l_LA49_g56,l_LA49_g76,d_l_LA32_l_LA14,d_l_LA32_l_LA20,d_l_LA38_l_LA14,d_l_LA38_l_LA20,d_l_LA49_l_LA14,d_l_LA49_l_LA20,d_l_LA49_l_LA32,d_l_LA49_l_LA38,(by rw [t8 (by rw [←fd];exact ip)];exact jl),(by rw [lM (by rw [←fd,ip];decide)];exact ir),(by rw [lM (by rw [←fd,ip];decide)];exact gt)⟩ (show mm-(i+1)<mm-i by omega) G ⟨rfl,rfl,rfl,rfl,rfl,rfl,rfl,rfl,rfl,rfl,rfl,rfl,rfl,rfl,rfl,rfl,rfl,rfl,rfl,rfl,rfl,rfl,rfl,rfl,rfl,rfl,rfl,rfl,rfl,rfl,rfl,rfl,rfl,rfl,rfl,rfl,rfl,rfl,rfl,rfl,rfl,rfl,rfl,rfl,rfl,rfl,rfl,rfl,rfl,Ht⟩)))))))))))
  ·refine aL (mv 2 G ?_)
   obtain⟨dn,dl,dh,dm,dd,dy,dq,mn,qo⟩:=(l_LA38).at (i:=i) (by omega)
   have ew:=qo.zr
   have vo:ln (gc.getD i 0)≤17179869184:=ew.ln_le mn
   refine aX G G G bM aG.size i G dn dy (aK G G (dq _ aB _ _ aG) (cl (vs:= [O dl dh dm dd]) jh (DT ew ip) G (by kernel_rfl) fun _ _ rm h bg=>?_))
   obtain rfl:=rm
   refine aE (aY G (bA (aM (sr (mv 1 G (bC G G G ((rk+1:Nat):Int) (bW (a:=rk) (b:=1) G G) (mv 1 G (aE (aH (aH ?_))))))))))
   by_cases mh:gc.getD i 0=1
   ·refine aL (mv 2 G (aX G G G bM aG.size i G dn dy (aK G G (dq _ h _ _ aG) (cl (vs:= [O dl dh dm dd]) bg (MS (ew.ext h) mh) G (by kernel_rfl) fun _ re qy ao da=>?_))))
    obtain rfl:=qy
    refine aE (bJ G (cM (cK (cL (aM (aL (mv 1 G (bC G G G ((i+1:Nat):Int) (bW (a:=i) (b:=1) G G) (mv 1 G (aS (cB (⟨re,i+1,rk+1,H,sv,Av,nv,cv,pz⟩:a0×Nat×Nat×Nat×Bool×Option a6×Nat×Nat×Int) ⟨da,(by omega),(b_g1.ext (h.t ao)),(b_g56.ext (h.t ao)),(z_g56.ext (h.t ao)),(b_g76.ext (h.t ao)),(z_g76.ext (h.t ao)),(a7 (a7 l_LA14b h.size) ao.size),(l_LA14.ext (h.t ao)),l_LA14_g1,l_LA14_g56,l_LA14_g76,(a7 (a7 l_LA20b h.size) ao.size),(l_LA20.ext (h.t ao)),l_LA20_g1,l_LA20_g56,l_LA20_g76,(a7 (a7 l_LA32b h.size) ao.size),(l_LA32.ext (h.t ao)),l_LA32_g1,l_LA32_g56,l_LA32_g76,(a7 (a7 l_LA38b h.size) ao.size),(l_LA38.ext (h.t ao)),l_LA38_g1,l_LA38_g56,l_LA38_g76,(a7 (a7 l_LA49b h.size) ao.size),(l_LA49.ext (h.t ao)),l_LA49_g1,l_LA49_g56,l_LA49_g76,d_l_LA32_l_LA14,d_l_LA32_l_LA20,d_l_LA38_l_LA14,d_l_LA38_l_LA20,d_l_LA49_l_LA14,d_l_LA49_l_LA20,d_l_LA49_l_LA32,d_l_LA49_l_LA38,(by rw [mC (by rw [←fd];exact ip),jl]),(by rw [lM (by rw [←fd,mh];decide)];exact ir),(by rw [lM (by rw [←fd,mh];decide)];exact gt)⟩ (show mm-(i+1)<mm-i by omega) G ⟨rfl,rfl,rfl,rfl,rfl,rfl,rfl,rfl,rfl,rfl,rfl,rfl,rfl,rfl,rfl,rfl,rfl,rfl,rfl,rfl,rfl,rfl,rfl,rfl,rfl,rfl,rfl,rfl,rfl,rfl,rfl,rfl,rfl,rfl,rfl,rfl,rfl,rfl,rfl,rfl,rfl,rfl,rfl,rfl,rfl,rfl,rfl,rfl,rfl,Ht⟩)))))))))))
   ·have fv:1<(aV n cc mm X) i:=by rw [←fd] at qq⊢;omega
    refine aL (mv 2 G (aX G G G bM aG.size i G dn dy (aK G G (dq _ h _ _ aG) (cl (vs:= [O dl dh dm dd]) bg (MT (ew.ext h) (by rw [fd];exact qq) mh) G (by kernel_rfl) fun _ _ rf o da=>?_))))
    obtain rfl:=rf
    refine aE (aY G (bA (aM (aH (aH ?_)))))
    obtain⟨uk,vd⟩:=QZ jj fv
    have io:bj.getD H 0=(aV n cc mm X) i:=by rw [tb,ir];exact vd
    have wk:H<(b8 (aV n cc mm X) mm).length:=by rw [ir];exact uk
    by_cases vu:H>0
    ·obtain⟨l9,ru,ux⟩:=QY (f:=aV n cc mm X) (m:=mm) (i:=i) (by omega) (by omega)
     have oc:bj.getD (H-1) 0=(aV n cc mm X) l9:=by rw [tb,ir];exact ux
     obtain⟨ey,ep,ez,em,fa,gw,ia,ll,og⟩:=((l_LA20.ext (h.t o))).at (i:=H) (by omega)
     have fq:=og.zr
     have qe:ln (bj.getD H 0)≤17179869184:=fq.ln_le ll
     obtain⟨jm,jp,kt,kj,ks,mg,ml,lw,px⟩:=((l_LA20.ext (h.t o))).at (i:=H-1) (by omega)
     have kc:=px.zr
     have uu:ln (bj.getD (H-1) 0)≤17179869184:=kc.ln_le lw
     refine dP cF 33 [] [Is (AI H),Is (By I ((b8 (aV n cc mm X) mm).length) ak),Is (AI ((((b8 (aV n cc mm X) mm).length):Nat):Int)),Is (Hs),Is (Hs),Is (By I ((b8 (aV n cc mm X) mm).length) ak),Is (AI H),Is (.pointer (some ey)),Is (O ep ez em fa),Is (By U mm bu),Is (AI i),Is (.pointer (some dn)),Is (O dl dh dm dd),Is (BY),Is (Hs),Is (Hs),Is (Hs),Is (AI H),Is (BY),Is (BY),Is (By I ((b8 (aV n cc mm X) mm).length) ak),Is (AI H),Is (AI ((H-1:Nat):Int)),Is (.pointer (some jm)),Is (O jp kt kj ks),Is (By I ((b8 (aV n cc mm X) mm).length) ak),Is (AI H),Is (.pointer (some ey)),Is (O ep ez em fa),Is (BY),Is (Hs),Is (Hs),Is (Hs)] [[],[],[1],[0,2],[3],[4],[4],[4,5,6],[4,7],[4],[4],[4,9,10],[4,11],[4,8,12],[4,13],[4,14],[15],[16],[16,17],[16,18],[19],[19],[19,21],[19,20,22],[19,23],[19],[19],[19,25,26],[19,27],[19,24,28],[19,29],[16,19,30],[16,31]] [[],[],[1],[0,1,2],[0,1,2,3],[0,1,2,3,4],[0,1,2,3,4],[0,1,2,3,4,5,6],[0,1,2,3,4,5,6,7],[0,1,2,3,4],[0,1,2,3,4],[0,1,2,3,4,9,10],[0,1,2,3,4,9,10,11],[0,1,2,3,4,5,6,7,8,9,10,11,12],[0,1,2,3,4,5,6,7,8,9,10,11,12,13],[0,1,2,3,4,5,6,7,8,9,10,11,12,13,14],[0,1,2,3,4,5,6,7,8,9,10,11,12,13,14,15],[0,1,2,3,4,5,6,7,8,9,10,11,12,13,14,15,16],[0,1,2,3,4,5,6,7,8,9,10,11,12,13,14,15,16,17],[0,1,2,3,4,5,6,7,8,9,10,11,12,13,14,15,16,17,18],[0,1,2,3,4,5,6,7,8,9,10,11,12,13,14,15,16,17,18,19],[0,1,2,3,4,5,6,7,8,9,10,11,12,13,14,15,16,17,18,19],[0,1,2,3,4,5,6,7,8,9,10,11,12,13,14,15,16,17,18,19,21],[0,1,2,3,4,5,6,7,8,9,10,11,12,13,14,15,16,17,18,19,20,21,22],[0,1,2,3,4,5,6,7,8,9,10,11,12,13,14,15,16,17,18,19,20,21,22,23],[0,1,2,3,4,5,6,7,8,9,10,11,12,13,14,15,16,17,18,19],[0,1,2,3,4,5,6,7,8,9,10,11,12,13,14,15,16,17,18,19],[0,1,2,3,4,5,6,7,8,9,10,11,12,13,14,15,16,17,18,19,25,26],[0,1,2,3,4,5,6,7,8,9,10,11,12,13,14,15,16,17,18,19,25,26,27],[0,1,2,3,4,5,6,7,8,9,10,11,12,13,14,15,16,17,18,19,20,21,22,23,24,25,26,27,28],[0,1,2,3,4,5,6,7,8,9,10,11,12,13,14,15,16,17,18,19,20,21,22,23,24,25,26,27,28,29],[0,1,2,3,4,5,6,7,8,9,10,11,12,13,14,15,16,17,18,19,20,21,22,23,24,25,26,27,28,29,30],[0,1,2,3,4,5,6,7,8,9,10,11,12,13,14,15,16,17,18,19,20,21,22,23,24,25,26,27,28,29,30,31]] rfl
      (aD G G (aA G G ?_) (aD G G (aA G G ?_) (aD G G (aA G G ?_) (aD G G (aA G G ?_) (aD G G (aA G G ?_) (aD G G (aA G G ?_) (aD G G (aA G G ?_) (aD G G (aA G G ?_) (aD G G (aA G G ?_) (aD G G (aA G G ?_) (aD G G (aA G G ?_) (aD G G (aA G G ?_) (aD G G (aA G G ?_) (aD G G (aA G G ?_) (aD G G (aA G G ?_) (aD G G (aA G G ?_) (aD G G (aA G G ?_) (aD G G (aA G G ?_) (aD G G (aA G G ?_) (aD G G (aA G G ?_) (aD G G (aA G G ?_) (aD G G (aA G G ?_) (aD G G (aA G G ?_) (aD G G (aA G G ?_) (aD G G (aA G G ?_) (aD G G (aA G G ?_) (aD G G (aA G G ?_) (aD G G (aA G G ?_) (aD G G (aA G G ?_) (aD G G (aA G G ?_) (aD G G (aA G G ?_) (aD G G (aA G G ?_) (aD G G (aA G G ?_) dF))))))))))))))))))))))))))))))))) ?_
     ·exact fun _ _=>a8 (mv 1 G (aC G aB G))
     ·exact fun _ _=>a8 (mv 1 G (aC G aB G))
     ·exact fun _ _=>dk G G (a8 (pu (v:= AI ((((b8 (aV n cc mm X) mm).length):Nat):Int)) G (aC G aB G)))
     ·exact fun _ _=>dk G G (dk G G (a8 (aN G G G false (F7 (a:=H) (b:=(b8 (aV n cc mm X) mm).length) G G (by omega)) (aC G aB G))))
     ·exact fun _ _=>dk G G (a8 (mv 1 G (aC G aB G)))
     ·exact fun _ _=>dk G G (a8 (mv 1 G (aC G aB G)))
     ·exact fun _ _=>dk G G (a8 (mv 1 G (aC G aB G)))
     ·exact fun _ _=>dk G G (dk G G (dk G G (a8 (aX G G G bM aG.size H G ey gw (aC G aB G)))))
     ·exact fun _ rt=>dk G G (dk G G (a8 (aK G G (ia _ rt _ _ aG) (aC G aB G))))
     ·exact fun _ _=>dk G G (a8 (mv 1 G (aC G aB G)))
     ·exact fun _ _=>dk G G (a8 (mv 1 G (aC G aB G)))
     ·exact fun _ _=>dk G G (dk G G (dk G G (a8 (aX G G G bM aG.size i G dn dy (aC G aB G)))))
     ·exact fun _ rz=>dk G G (dk G G (a8 (aK G G (dq _ (h.t (o.t rz)) _ _ aG) (aC G aB G))))
     ·intro _ ku
      have cz:=da.trans ku
      refine dk G G (dk G G (dk G G (a8 (cl (vs:= [O ep ez em fa,O dl dh dm dd]) cz (qN (fq.ext ku) (((ew.ext (h.t (o.t ku)))).cast (by rw [io,fd]))) G (by kernel_rfl) fun _ _ sj qz az=>?_))))
      obtain rfl:=sj
      exact aC G qz rfl
     ·exact fun _ _=>dk G G (dk G G (a8 (pu (v:= Hs) G (aC G aB G))))
     ·exact fun _ _=>dk G G (dk G G (a8 (pu (v:= Hs) G (aC G aB G))))
     ·exact fun _ _=>dk G G (a8 (mv 1 G (aC G aB G)))
     ·exact fun _ _=>dk G G (a8 (mv 1 G (aC G aB G)))
     ·exact fun _ _=>dk G G (dk G G (a8 (aN G G G true (nV (a:=H) (b:=0) G G) (aC G aB G))))
     ·exact fun _ _=>dk G G (dk G G (a8 (mv 1 G (aC G aB G))))
     ·exact fun _ _=>dk G G (a8 (mv 1 G (aC G aB G)))
     ·exact fun _ _=>dk G G (a8 (mv 1 G (aC G aB G)))
     ·exact fun _ _=>dk G G (dk G G (a8 (bC G G G ((H-1:Nat):Int) (iY (a:=H) (b:=1) G G) (aC G aB G))))
     ·exact fun _ _=>dk G G (dk G G (dk G G (a8 (aX G G G bM aG.size (H-1) G jm mg (aC G aB G)))))
     ·exact fun _ te=>dk G G (dk G G (a8 (aK G G (ml _ te _ _ aG) (aC G aB G))))
     ·exact fun _ _=>dk G G (a8 (mv 1 G (aC G aB G)))
     ·exact fun _ _=>dk G G (a8 (mv 1 G (aC G aB G)))
     ·exact fun _ _=>dk G G (dk G G (dk G G (a8 (aX G G G bM aG.size H G ey gw (aC G aB G)))))
     ·exact fun _ qx=>dk G G (dk G G (a8 (aK G G (ia _ qx _ _ aG) (aC G aB G))))
     ·intro _ jn
      have cz:=da.trans jn
      refine dk G G (dk G G (dk G G (a8 (cl (vs:= [O jp kt kj ks,O ep ez em fa]) cz (MU (kc.ext jn) (fq.ext jn) (by rw [oc];exact a7 (fx.vl (by omega)) (by decide)) (by rw [io];exact a7 (fx.vl jj) (by decide)) (by rw [oc];intro q;have h9:=fx.ch l9 i ru jj;rw [q] at h9;have:=Int.zero_dvd.1 h9;omega) (by rw [oc,io];exact fx.ch l9 i ru jj)) G (by kernel_rfl) fun _ _ ta si az=>?_))))
      obtain rfl:=ta
      exact aC G si rfl
     ·exact fun _ _=>dk G G (dk G G (a8 (pu (v:= Hs) G (aC G aB G))))
     ·exact fun _ _=>dk G G (dk G G (dk G G (a8 (pu (v:= Hs) G (aC G aB G)))))
     ·exact fun _ _=>dk G G (dk G G (a8 (pu (v:= Hs) G (aC G aB G))))
     ·intro _ ah
      have cz:=da.trans ah
      refine dk G G (dk G G (dk G G (dk G G (dk G G (dk G G (dk G G (dk G G (dk G G (dk G G (dk G G (dk G G (dk G G (dk G G ?_)))))))))))))
      refine dk G G (dk G G (dk G G (dk G G (dk G G (dk G G (dk G G (dk G G (dk G G (dk G G (dk G G (dk G G (dk G G (dk G G ?_)))))))))))))
      refine dk G G (dk G G (dk G G (dk G G (dk G G (a8 (aS (dA (aM (aY G (bA (aM (aH ?_))))))))))))
      have ve:ln (pz*bj.getD H 0)≤136323396:=by rw [io,gt,←oS,←jP fv];exact fx.lpl (by omega)
      refine dP cF 6 [] [Is (O sv Av nv cv),Is (By I ((b8 (aV n cc mm X) mm).length) ak),Is (AI H),Is (.pointer (some ey)),Is (O ep ez em fa),ZR w.heap.size (pz*(bj.getD H 0))] [[],[],[],[1,2],[3],[0,4]] [[],[],[],[1,2],[1,2,3],[0,1,2,3,4],[0,1,2,3,4,5]] rfl
       (aD G G (aA G G ?_) (aD G G (aA G G ?_) (aD G G (aA G G ?_) (aD G G (aA G G ?_) (aD G G (aA G G ?_) (aD G G (aA G G ?_) dF)))))) ?_
      ·exact fun _ ua=>a8 (lo aG (b_g76.ext (h.t (o.t (ah.t ua)))) (a4 sv Av nv cv) G G G (aC G aB G))
      ·exact fun _ _=>a8 (mv 1 G (aC G aB G))
      ·exact fun _ _=>a8 (mv 1 G (aC G aB G))
      ·exact fun _ _=>dk G G (dk G G (a8 (aX G G G bM aG.size H G ey gw (aC G aB G))))
      ·exact fun _ ss=>dk G G (a8 (aK G G (ia _ (ah.t ss) _ _ aG) (aC G aB G)))
      ·intro _ jv
       have az:=cz.trans jv
       refine dk G G (dk G G (a8 (cl (vs:= [O sv Av nv cv,O ep ez em fa]) az (iU az.size (z_g76.ext (h.t (o.t (ah.t jv)))).zi (z_g76.le (a7 (by rw [gt];exact fx.lpl mx) (by decide))) (fq.ext (ah.t jv)).zi (fq.le (aZ qe G))) G (by kernel_rfl) fun _ _ ti tx eh=>?_)))
       obtain⟨_,_,_,_,rfl,tn⟩:=ti
       exact aC G tx ⟨_,_,_,_,rfl,tn⟩
      ·intro _ aq
       have az:=cz.trans aq
       refine dk G G (dk G G (dk G G (dk G G (dk G G (aT G G fun _ _ tc _ qv=>?_)))))
       obtain⟨ng,mz,mw,nj,rfl,jx⟩:=tc
       have jx:=jx.ext qv
       refine a8 ?_
       have cn:=(b_g76.ext (h.t (o.t (ah.t aq))))
       refine so aG cn (a4 ng mz mw nj) az jt G G G G fun sf ot aw eh=>(aS (dA (aM (aL (mv 1 G (bC G G G ((H+1:Nat):Int) (bW (a:=H) (b:=1) G G) (mv 1 G (aS (cC (aM (aL (mv 1 G (bC G G G ((i+1:Nat):Int) (bW (a:=i) (b:=1) G G) ?_)))))))))))))
       refine mv 1 G (aS (cB (⟨sf,i+1,rk+1,H+1,ng,mz,mw,nj,pz*(bj.getD H 0)⟩:a0×Nat×Nat×Nat×Bool×Option a6×Nat×Nat×Int) ⟨eh,(by omega),((b_g1.ext (h.t (o.t (ah.t aq)))).vN aw),((b_g56.ext (h.t (o.t (ah.t aq)))).vN aw),((z_g56.ext (h.t (o.t (ah.t aq)))).updT cn aw),ot,(jx.updT cn aw),(a7 (a7 (a7 (a7 (a7 l_LA14b h.size) o.size) ah.size) aq.size) aw.by_.size),((l_LA14.ext (h.t (o.t (ah.t aq)))).updT cn aw l_LA14_g76),l_LA14_g1,l_LA14_g56,l_LA14_g76,(a7 (a7 (a7 (a7 (a7 l_LA20b h.size) o.size) ah.size) aq.size) aw.by_.size),((l_LA20.ext (h.t (o.t (ah.t aq)))).updT cn aw l_LA20_g76),l_LA20_g1,l_LA20_g56,l_LA20_g76,(a7 (a7 (a7 (a7 (a7 l_LA32b h.size) o.size) ah.size) aq.size) aw.by_.size),((l_LA32.ext (h.t (o.t (ah.t aq)))).updT cn aw l_LA32_g76),l_LA32_g1,l_LA32_g56,l_LA32_g76,(a7 (a7 (a7 (a7 (a7 l_LA38b h.size) o.size) ah.size) aq.size) aw.by_.size),((l_LA38.ext (h.t (o.t (ah.t aq)))).updT cn aw l_LA38_g76),l_LA38_g1,l_LA38_g56,l_LA38_g76,(a7 (a7 (a7 (a7 (a7 l_LA49b h.size) o.size) ah.size) aq.size) aw.by_.size),((l_LA49.ext (h.t (o.t (ah.t aq)))).updT cn aw l_LA49_g76),l_LA49_g1,l_LA49_g56,l_LA49_g76,d_l_LA32_l_LA14,d_l_LA32_l_LA20,d_l_LA38_l_LA14,d_l_LA38_l_LA20,d_l_LA49_l_LA14,d_l_LA49_l_LA20,d_l_LA49_l_LA32,d_l_LA49_l_LA38,(by rw [mC (by rw [←fd];exact ip),jl]),(by rw [jP fv,kI,ir];rfl),(by rw [jP fv,oS,gt,io])⟩ (show mm-(i+1)<mm-i by omega) G ⟨rfl,rfl,rfl,rfl,rfl,rfl,rfl,rfl,rfl,rfl,rfl,rfl,rfl,rfl,rfl,rfl,rfl,rfl,rfl,rfl,rfl,rfl,rfl,rfl,rfl,rfl,rfl,rfl,rfl,rfl,rfl,rfl,rfl,rfl,rfl,rfl,rfl,rfl,rfl,rfl,rfl,rfl,rfl,rfl,rfl,rfl,rfl,rfl,rfl,Ht⟩))
    ·obtain⟨ik,ib,ic,gn,gx,jg,jf,lj,qg⟩:=((l_LA20.ext (h.t o))).at (i:=H) (by omega)
     have ie:=qg.zr
     have qd:ln (bj.getD H 0)≤17179869184:=ie.ln_le lj
     refine dP cF 33 [] [Is (AI H),Is (By I ((b8 (aV n cc mm X) mm).length) ak),Is (AI ((((b8 (aV n cc mm X) mm).length):Nat):Int)),Is (Hs),Is (Hs),Is (By I ((b8 (aV n cc mm X) mm).length) ak),Is (AI H),Is (.pointer (some ik)),Is (O ib ic gn gx),Is (By U mm bu),Is (AI i),Is (.pointer (some dn)),Is (O dl dh dm dd),Is (BY),Is (Hs),Is (Hs),Is (Hs),Is (AI H),Is (Hs),Is (Hs),Is (undef),Is (undef),Is (undef),Is (undef),Is (undef),Is (undef),Is (undef),Is (undef),Is (undef),Is (undef),Is (undef),Is (Hs),Is (Hs)] [[],[],[1],[0,2],[3],[4],[4],[4,5,6],[4,7],[4],[4],[4,9,10],[4,11],[4,8,12],[4,13],[4,14],[15],[16],[16,17],[16,18],[19],[19],[19,21],[19,20,22],[19,23],[19],[19],[19,25,26],[19,27],[19,24,28],[19,29],[16,19,30],[16,31]] [[],[],[1],[0,1,2],[0,1,2,3],[0,1,2,3,4],[0,1,2,3,4],[0,1,2,3,4,5,6],[0,1,2,3,4,5,6,7],[0,1,2,3,4],[0,1,2,3,4],[0,1,2,3,4,9,10],[0,1,2,3,4,9,10,11],[0,1,2,3,4,5,6,7,8,9,10,11,12],[0,1,2,3,4,5,6,7,8,9,10,11,12,13],[0,1,2,3,4,5,6,7,8,9,10,11,12,13,14],[0,1,2,3,4,5,6,7,8,9,10,11,12,13,14,15],[0,1,2,3,4,5,6,7,8,9,10,11,12,13,14,15,16],[0,1,2,3,4,5,6,7,8,9,10,11,12,13,14,15,16,17],[0,1,2,3,4,5,6,7,8,9,10,11,12,13,14,15,16,17,18],[0,1,2,3,4,5,6,7,8,9,10,11,12,13,14,15,16,17,18,19],[0,1,2,3,4,5,6,7,8,9,10,11,12,13,14,15,16,17,18,19],[0,1,2,3,4,5,6,7,8,9,10,11,12,13,14,15,16,17,18,19,21],[0,1,2,3,4,5,6,7,8,9,10,11,12,13,14,15,16,17,18,19,20,21,22],[0,1,2,3,4,5,6,7,8,9,10,11,12,13,14,15,16,17,18,19,20,21,22,23],[0,1,2,3,4,5,6,7,8,9,10,11,12,13,14,15,16,17,18,19],[0,1,2,3,4,5,6,7,8,9,10,11,12,13,14,15,16,17,18,19],[0,1,2,3,4,5,6,7,8,9,10,11,12,13,14,15,16,17,18,19,25,26],[0,1,2,3,4,5,6,7,8,9,10,11,12,13,14,15,16,17,18,19,25,26,27],[0,1,2,3,4,5,6,7,8,9,10,11,12,13,14,15,16,17,18,19,20,21,22,23,24,25,26,27,28],[0,1,2,3,4,5,6,7,8,9,10,11,12,13,14,15,16,17,18,19,20,21,22,23,24,25,26,27,28,29],[0,1,2,3,4,5,6,7,8,9,10,11,12,13,14,15,16,17,18,19,20,21,22,23,24,25,26,27,28,29,30],[0,1,2,3,4,5,6,7,8,9,10,11,12,13,14,15,16,17,18,19,20,21,22,23,24,25,26,27,28,29,30,31]] rfl
      (aD G G (aA G G ?_) (aD G G (aA G G ?_) (aD G G (aA G G ?_) (aD G G (aA G G ?_) (aD G G (aA G G ?_) (aD G G (aA G G ?_) (aD G G (aA G G ?_) (aD G G (aA G G ?_) (aD G G (aA G G ?_) (aD G G (aA G G ?_) (aD G G (aA G G ?_) (aD G G (aA G G ?_) (aD G G (aA G G ?_) (aD G G (aA G G ?_) (aD G G (aA G G ?_) (aD G G (aA G G ?_) (aD G G (aA G G ?_) (aD G G (aA G G ?_) (aD G G (aA G G ?_) (aD G G (aA G G ?_) (aD G G (aA G G ?_) (aD G G (aA G G ?_) (aD G G (aA G G ?_) (aD G G (aA G G ?_) (aD G G (aA G G ?_) (aD G G (aA G G ?_) (aD G G (aA G G ?_) (aD G G (aA G G ?_) (aD G G (aA G G ?_) (aD G G (aA G G ?_) (aD G G (aA G G ?_) (aD G G (aA G G ?_) (aD G G (aA G G ?_) dF))))))))))))))))))))))))))))))))) ?_
     ·exact fun _ _=>a8 (mv 1 G (aC G aB G))
     ·exact fun _ _=>a8 (mv 1 G (aC G aB G))
     ·exact fun _ _=>dk G G (a8 (pu (v:= AI ((((b8 (aV n cc mm X) mm).length):Nat):Int)) G (aC G aB G)))
     ·exact fun _ _=>dk G G (dk G G (a8 (aN G G G false (F7 (a:=H) (b:=(b8 (aV n cc mm X) mm).length) G G (by omega)) (aC G aB G))))
     ·exact fun _ _=>dk G G (a8 (mv 1 G (aC G aB G)))
     ·exact fun _ _=>dk G G (a8 (mv 1 G (aC G aB G)))
     ·exact fun _ _=>dk G G (a8 (mv 1 G (aC G aB G)))
     ·exact fun _ _=>dk G G (dk G G (dk G G (a8 (aX G G G bM aG.size H G ik jg (aC G aB G)))))
     ·exact fun _ ri=>dk G G (dk G G (a8 (aK G G (jf _ ri _ _ aG) (aC G aB G))))
     ·exact fun _ _=>dk G G (a8 (mv 1 G (aC G aB G)))
     ·exact fun _ _=>dk G G (a8 (mv 1 G (aC G aB G)))
     ·exact fun _ _=>dk G G (dk G G (dk G G (a8 (aX G G G bM aG.size i G dn dy (aC G aB G)))))
     ·exact fun _ tj=>dk G G (dk G G (a8 (aK G G (dq _ (h.t (o.t tj)) _ _ aG) (aC G aB G))))
     ·intro _ ka
      have cz:=da.trans ka
      refine dk G G (dk G G (dk G G (a8 (cl (vs:= [O ib ic gn gx,O dl dh dm dd]) cz (qN (ie.ext ka) (((ew.ext (h.t (o.t ka)))).cast (by rw [io,fd]))) G (by kernel_rfl) fun _ _ rp sc az=>?_))))
      obtain rfl:=rp
      exact aC G sc rfl
     ·exact fun _ _=>dk G G (dk G G (a8 (pu (v:= Hs) G (aC G aB G))))
     ·exact fun _ _=>dk G G (dk G G (a8 (pu (v:= Hs) G (aC G aB G))))
     ·exact fun _ _=>dk G G (a8 (mv 1 G (aC G aB G)))
     ·exact fun _ _=>dk G G (a8 (mv 1 G (aC G aB G)))
     ·exact fun _ _=>dk G G (dk G G (a8 (aN G G G false (mM (a:=H) (b:=0) G G) (aC G aB G))))
     ·exact fun _ _=>dk G G (dk G G (a8 (mv 1 G (aC G aB G))))
     ·exact fun _ _=>dk G G (a8 (mv 1 G (aC G aB G)))
     ·exact fun _ _=>dk G G (a8 (mv 1 G (aC G aB G)))
     ·exact fun _ _=>dk G G (dk G G (a8 (mv 1 G (aC G aB G))))
     ·exact fun _ _=>dk G G (dk G G (dk G G (a8 (mv 1 G (aC G aB G)))))
     ·exact fun _ _=>dk G G (dk G G (a8 (mv 1 G (aC G aB G))))
     ·exact fun _ _=>dk G G (a8 (mv 1 G (aC G aB G)))
     ·exact fun _ _=>dk G G (a8 (mv 1 G (aC G aB G)))
     ·exact fun _ _=>dk G G (dk G G (dk G G (a8 (mv 1 G (aC G aB G)))))
     ·exact fun _ _=>dk G G (dk G G (a8 (mv 1 G (aC G aB G))))
     ·exact fun _ _=>dk G G (dk G G (dk G G (a8 (mv 1 G (aC G aB G)))))
     ·exact fun _ _=>dk G G (dk G G (a8 (mv 1 G (aC G aB G))))
     ·exact fun _ _=>dk G G (dk G G (dk G G (a8 (pu (v:= Hs) G (aC G aB G)))))
     ·exact fun _ _=>dk G G (dk G G (a8 (pu (v:= Hs) G (aC G aB G))))
     ·intro _ aa
      have cz:=da.trans aa
      refine dk G G (dk G G (dk G G (dk G G (dk G G (dk G G (dk G G (dk G G (dk G G (dk G G (dk G G (dk G G (dk G G (dk G G ?_)))))))))))))
      refine dk G G (dk G G (dk G G (dk G G (dk G G (dk G G (dk G G (dk G G (dk G G (dk G G (dk G G (dk G G (dk G G (dk G G ?_)))))))))))))
      refine dk G G (dk G G (dk G G (dk G G (dk G G (a8 (aS (dA (aM (aY G (bA (aM (aH ?_))))))))))))
      have ve:ln (pz*bj.getD H 0)≤136323396:=by rw [io,gt,←oS,←jP fv];exact fx.lpl (by omega)
      refine dP cF 6 [] [Is (O sv Av nv cv),Is (By I ((b8 (aV n cc mm X) mm).length) ak),Is (AI H),Is (.pointer (some ik)),Is (O ib ic gn gx),ZR w.heap.size (pz*(bj.getD H 0))] [[],[],[],[1,2],[3],[0,4]] [[],[],[],[1,2],[1,2,3],[0,1,2,3,4],[0,1,2,3,4,5]] rfl
       (aD G G (aA G G ?_) (aD G G (aA G G ?_) (aD G G (aA G G ?_) (aD G G (aA G G ?_) (aD G G (aA G G ?_) (aD G G (aA G G ?_) dF)))))) ?_
      ·exact fun _ pt=>a8 (lo aG (b_g76.ext (h.t (o.t (aa.t pt)))) (a4 sv Av nv cv) G G G (aC G aB G))
      ·exact fun _ _=>a8 (mv 1 G (aC G aB G))
      ·exact fun _ _=>a8 (mv 1 G (aC G aB G))
      ·exact fun _ _=>dk G G (dk G G (a8 (aX G G G bM aG.size H G ik jg (aC G aB G))))
      ·exact fun _ ox=>dk G G (a8 (aK G G (jf _ (aa.t ox) _ _ aG) (aC G aB G)))
      ·intro _ iy
       have az:=cz.trans iy
       refine dk G G (dk G G (a8 (cl (vs:= [O sv Av nv cv,O ib ic gn gx]) az (iU az.size (z_g76.ext (h.t (o.t (aa.t iy)))).zi (z_g76.le (a7 (by rw [gt];exact fx.lpl mx) (by decide))) (ie.ext (aa.t iy)).zi (ie.le (aZ qd G))) G (by kernel_rfl) fun _ _ oi pq eh=>?_)))
       obtain⟨_,_,_,_,rfl,oy⟩:=oi
       exact aC G pq ⟨_,_,_,_,rfl,oy⟩
      ·intro _ ac
       have az:=cz.trans ac
       refine dk G G (dk G G (dk G G (dk G G (dk G G (aT G G fun _ _ qn _ ob=>?_)))))
       obtain⟨jq,jk,jo,jr,rfl,iz⟩:=qn
       have iz:=iz.ext ob
       refine a8 ?_
       have av:=(b_g76.ext (h.t (o.t (aa.t ac))))
       refine so aG av (a4 jq jk jo jr) az jt G G G G fun pw me aj eh=>(aS (dA (aM (aL (mv 1 G (bC G G G ((H+1:Nat):Int) (bW (a:=H) (b:=1) G G) (mv 1 G (aS (cC (aM (aL (mv 1 G (bC G G G ((i+1:Nat):Int) (bW (a:=i) (b:=1) G G) ?_)))))))))))))
       refine mv 1 G (aS (cB (⟨pw,i+1,rk+1,H+1,jq,jk,jo,jr,pz*(bj.getD H 0)⟩:a0×Nat×Nat×Nat×Bool×Option a6×Nat×Nat×Int) ⟨eh,(by omega),((b_g1.ext (h.t (o.t (aa.t ac)))).vN aj),((b_g56.ext (h.t (o.t (aa.t ac)))).vN aj),((z_g56.ext (h.t (o.t (aa.t ac)))).updT av aj),me,(iz.updT av aj),(a7 (a7 (a7 (a7 (a7 l_LA14b h.size) o.size) aa.size) ac.size) aj.by_.size),((l_LA14.ext (h.t (o.t (aa.t ac)))).updT av aj l_LA14_g76),l_LA14_g1,l_LA14_g56,l_LA14_g76,(a7 (a7 (a7 (a7 (a7 l_LA20b h.size) o.size) aa.size) ac.size) aj.by_.size),((l_LA20.ext (h.t (o.t (aa.t ac)))).updT av aj l_LA20_g76),l_LA20_g1,l_LA20_g56,l_LA20_g76,(a7 (a7 (a7 (a7 (a7 l_LA32b h.size) o.size) aa.size) ac.size) aj.by_.size),((l_LA32.ext (h.t (o.t (aa.t ac)))).updT av aj l_LA32_g76),l_LA32_g1,l_LA32_g56,l_LA32_g76,(a7 (a7 (a7 (a7 (a7 l_LA38b h.size) o.size) aa.size) ac.size) aj.by_.size),((l_LA38.ext (h.t (o.t (aa.t ac)))).updT av aj l_LA38_g76),l_LA38_g1,l_LA38_g56,l_LA38_g76,(a7 (a7 (a7 (a7 (a7 l_LA49b h.size) o.size) aa.size) ac.size) aj.by_.size),((l_LA49.ext (h.t (o.t (aa.t ac)))).updT av aj l_LA49_g76),l_LA49_g1,l_LA49_g56,l_LA49_g76,d_l_LA32_l_LA14,d_l_LA32_l_LA20,d_l_LA38_l_LA14,d_l_LA38_l_LA20,d_l_LA49_l_LA14,d_l_LA49_l_LA20,d_l_LA49_l_LA32,d_l_LA49_l_LA38,(by rw [mC (by rw [←fd];exact ip),jl]),(by rw [jP fv,kI,ir];rfl),(by rw [jP fv,oS,gt,io])⟩ (show mm-(i+1)<mm-i by omega) G ⟨rfl,rfl,rfl,rfl,rfl,rfl,rfl,rfl,rfl,rfl,rfl,rfl,rfl,rfl,rfl,rfl,rfl,rfl,rfl,rfl,rfl,rfl,rfl,rfl,rfl,rfl,rfl,rfl,rfl,rfl,rfl,rfl,rfl,rfl,rfl,rfl,rfl,rfl,rfl,rfl,rfl,rfl,rfl,rfl,rfl,rfl,rfl,rfl,rfl,Ht⟩))
 ·refine aL (mv 2 G (pu (v:= AI mm) G (aN G G G false (dK (a:=i) (b:=mm) G G) (aE (aY G (cM (cK (cT (cL (aM (aH (aH ?_))))))))))))
  obtain rfl:rk=cR (aV n cc mm X) mm:=by rw [jl,show i=mm by omega]
  obtain rfl:H=(b8 (aV n cc mm X) mm).length:=by rw [ir,show i=mm by omega]
  have vf:=mD (f:=aV n cc mm X) mm
  refine aL (mv 2 G (pu (v:= AI ((((b8 (aV n cc mm X) mm).length):Nat):Int)) G (aN G G G false (kC (a:=(b8 (aV n cc mm X) mm).length) (b:=(b8 (aV n cc mm X) mm).length) G G) (mv 2 G (pf g1 1 G (aK G G (aQ bV b_g1 G) (mv 1 G (bC G G G ((cc-(cR (aV n cc mm X) mm):Nat):Int) (iY (a:=cc) (b:=cR (aV n cc mm X) mm) G G) (aN G G G false (kC (a:=cc-cR (aV n cc mm X) mm) (b:=cc-(cR (aV n cc mm X) mm)) G G) (pu (v:= Hs) G (aE (aY G (bA ?_)))))))))))))
  refine aM (aH (aH ?_))
  by_cases ke:cc-cR (aV n cc mm X) mm=0
  ·refine aL (mv 1 G (aN G G G false (mM (a:=cc-cR (aV n cc mm X) mm) (b:=0) G G) (aE (aY G (bA (aM (aH (sr (lo aG b_g56 (a4 cg cu cm co) G G G (lo aG b_g76 (a4 sv Av nv cv) G G G (cl (vs:= [O cg cu cm co,O sv Av nv cv]) jh (qN z_g56 ((z_g76).cast (by rw [if_pos ke,gt,show i=mm by omega]))) G (by kernel_rfl) fun _ iu on J bg=>?_)))))))))))
   obtain rfl:=on
   refine pu (v:= Hs) G (aE (aY G (bA (aM (aH (aH ?_))))))
   by_cases ro:n=cc
   ·refine aL (pf g1 0 G (aK G G (aQ bV (b_g1.ext J) G) (pf g1 1 G (aK G G (aQ bV (b_g1.ext J) G) (aN G G G false (kC (a:=n) (b:=cc) G G) (aE (aY G (bA (aM (sr (lo bS (b_g1.ext J) [AI n,AI cc,By Aa na capa] G G G ?_)))))))))))
    obtain⟨ee,kv,ar,_,_,_,_⟩:∃lb,lb≤iu.heap.size∧iu.heap.size≤lb∧w.heap.size≤lb∧g1<lb∧bz<lb∧ce<lb:=⟨iu.heap.size,aI _,aI _,bg.size,(b_g1.ext J).lt,(b_g56.ext J).lt,(b_g76.ext J).lt⟩
    have tz:∀p:a6,ag=some p→p.block<ee:=fun p hp=>cJ (((l_LA14.ext J)).block p hp).2 ar
    have ry:∀p:a6,I=some p→p.block<ee:=fun p hp=>cJ (((l_LA20.ext J)).block p hp).2 ar
    have sd:∀p:a6,ai=some p→p.block<ee:=fun p hp=>cJ (((l_LA32.ext J)).block p hp).2 ar
    have qw:∀p:a6,U=some p→p.block<ee:=fun p hp=>cJ (((l_LA38.ext J)).block p hp).2 ar
    have tp:∀p:a6,ae=some p→p.block<ee:=fun p hp=>cJ (((l_LA49.ext J)).block p hp).2 ar
    refine cl (vs:= [.agg #[AI n,AI cc,By Aa na capa]]) bg (qO (w0:=w) bg.size kv bg ((show ZF w _ _ _ _ _ from⟨msa,mj,lm⟩).ext bg)) G (by kernel_rfl) fun _ _ oo cf da=>?_
    obtain⟨_,rfl,⟨jd,mf,rfl,ig⟩⟩:=oo
    have tf:=ig.block
    refine cl (vs:= [.agg #[AI n,AI cc,By jd na mf]]) da (OJ (X:=X) ro da.size ((ig).zf da) hna hn hX) G (by kernel_rfl) fun _ _ ow bc cz=>?_
    obtain⟨_,_,rfl,⟨fk,ft,fj,fg,rfl,jy⟩,rfl⟩:=ow
    refine mv 1 G (pu (v:= O fk ft fj fg) G (pu (v:= AI 0) G (dM G (z:= .agg #[F0,S0]) (vs:= [F0,S0]) (fun _=>by kernel_rfl) G fun cd _ nb=>?_)))
    have gk:=nb.bk
    have mb:w.heap.size≤cd:=by rw [←nb.at_];exact cz.size
    have ui:ce<cd:=by rw [←nb.at_];exact (b_g76.ext (J.t (cf.t bc))).lt
    have ue:∀p:a6,ag=some p→p.block≠cd:=fun p hp=>by have:=((l_LA14.ext (J.t (cf.t bc)))).block p hp;have:=nb.at_;omega
    have uf:∀p:a6,I=some p→p.block≠cd:=fun p hp=>by have:=((l_LA20.ext (J.t (cf.t bc)))).block p hp;have:=nb.at_;omega
    have ud:∀p:a6,ai=some p→p.block≠cd:=fun p hp=>by have:=((l_LA32.ext (J.t (cf.t bc)))).block p hp;have:=nb.at_;omega
    have ub:∀p:a6,U=some p→p.block≠cd:=fun p hp=>by have:=((l_LA38.ext (J.t (cf.t bc)))).block p hp;have:=nb.at_;omega
    have ug:∀p:a6,ae=some p→p.block≠cd:=fun p hp=>by have:=((l_LA49.ext (J.t (cf.t bc)))).block p hp;have:=nb.at_;omega
    have uc:∀p:a6,jd=some p→p.block≠cd:=fun p hp=>by have:=((ig.ext bc)).block p hp;have:=nb.at_;omega
    have ij:=nb.ext
    clear nb
    have az:=cz.trans ij
    refine so aG gk (a4 fk ft fj fg) az mb G G G G fun _ li ja eh=>(mv 1 G (aE (aH ?_)))
    have va:fQ (b8 (aV n cc mm X) mm)=(Int.natAbs (dt n X):Int):=OU hmm ro fx (by omega)
    have vk:ln ((Int.natAbs (dt n X):Int))≤134217728:=(by rw [k8];exact (xL hn fun i j hi hj=>hXa i j hi (by omega)))
    refine dP cF 8 [] [Is (AI 0),Is (BY),Is (BY),Is (O fk ft fj fg),ZR w.heap.size ((Int.natAbs (dt n X):Int)),Is (O cg cu cm co),Is (BY),Is (BY)] [[],[0],[1],[2],[2,3],[2],[2,4,5],[2,6]] [[],[0],[0,1],[0,1,2],[0,1,2,3],[0,1,2],[0,1,2,3,4,5],[0,1,2,3,4,5,6],[0,1,2,3,4,5,6,7]] rfl
     (aD G G (aA G G ?_) (aD G G (aA G G ?_) (aD G G (aA G G ?_) (aD G G (aA G G ?_) (aD G G (aA G G ?_) (aD G G (aA G G ?_) (aD G G (aA G G ?_) (aD G G (aA G G ?_) dF)))))))) ?_
    ·exact fun _ _=>a8 (mv 1 G (aC G aB G))
    ·exact fun _ _=>dk G G (a8 (aN G G G true (by decide) (aC G aB G)))
    ·exact fun _ _=>dk G G (a8 (mv 1 G (aC G aB G)))
    ·exact fun _ pj=>dk G G (a8 (lo aG (li.ext pj) (a4 fk ft fj fg) G G G (aC G aB G)))
    ·intro _ kg
     have fe:=eh.trans kg
     refine dk G G (dk G G (a8 ?_))
     have uw:ln ((Int.natAbs (dt n X):Int))≤134217728:=(by rw [k8];exact (xL hn fun i j hi hj=>hXa i j hi (by omega)))
     refine cl (vs:= [O fk ft fj fg]) fe (oX fe.size (((jy.ext ij).updT gk ja).ext kg).zi (jy.le (a7 (xL hn fun i j hi hj=>hXa i j hi (by omega)) (by decide)))) G (by kernel_rfl) fun _ _ qi ph ji=>?_
     obtain⟨_,_,_,_,rfl,oq⟩:=qi
     exact aC G ph ⟨_,_,_,_,rfl,oq⟩
    ·exact fun _ pk=>dk G G (a8 (lo aG (((b_g56.ext (J.t (cf.t (bc.t ij)))).vN ja).ext pk) (a4 cg cu cm co) G G G (aC G aB G)))
    ·intro _ ju
     have fe:=eh.trans ju
     refine dk G G (aT G G fun _ _ po _ qj=>?_)
     obtain⟨ov,qc,pg,nx,rfl,iv⟩:=po
     have iv:=iv.ext qj
     refine dk G G (a8 (cl (vs:= [O ov qc pg nx,O cg cu cm co]) fe (qN iv (((((z_g56.ext (J.t (cf.t (bc.t ij)))).updT gk ja).ext ju)).cast (by rw [if_pos ke,va]))) G (by kernel_rfl) fun _ _ qk oz ji=>?_))
     obtain rfl:=qk
     exact aC G oz rfl
    ·exact fun _ _=>dk G G (dk G G (a8 (pu (v:= BY) G (aC G aB G))))
    ·intro _ ou
     have fe:=eh.trans ou
     refine dk G G (dk G G (dk G G (dk G G (aT G G fun _ _ pb _ pp=>?_))))
     obtain⟨_,_,_,_,rfl,kp⟩:=pb
     have kp:=kp.ext pp
     refine dk G G (dk G G (dk G G (a8 (mv 1 G (aS (dA (aM (bG (bF [BY] G ⟨rfl,Ht⟩ ?_)))))))))
     exact⟨_,rfl,rfl,fe⟩
   ·refine aL (pf g1 0 G (aK G G (aQ bV (b_g1.ext J) G) (pf g1 1 G (aK G G (aQ bV (b_g1.ext J) G) (aN G G G true (nU (a:=n) (b:=cc) G G) (aE (bJ G (sr (mv 1 G (aE (bG (dZ (bF [BY] G ⟨rfl,Ht⟩ ?_)))))))))))))
    exact⟨_,rfl,rfl,bg⟩
  ·refine aL (mv 1 G (aN G G G true (nV (a:=cc-cR (aV n cc mm X) mm) (b:=0) G G) (aE (bJ G (sr (lo aG b_g56 (a4 cg cu cm co) G G G (cl (vs:= [O cg cu cm co]) jh (DS z_g56 (if_neg ke)) G (by kernel_rfl) fun _ _ qf _ bg=>?_)))))))
   obtain rfl:=qf
   refine mv 1 G (aE (bG (dZ (bF [BY] G ⟨rfl,Ht⟩ ?_))))
   exact⟨_,rfl,rfl,bg⟩
theorem LT {Ka:Nat}(hxa:ZF w Aa na capa Ka xs)(hk:Ka+na≤1048576):aR aJ 4 #[.agg #[AI R,AI C,By Aa na capa]] w (fun e w'=>e= .returned (BY)∧Ext w w'):=by
 have hxa':ZF w Aa na capa 1048576 xs:=hxa.mono (by omega)
 have key:aR aJ 4 #[.agg #[AI R,AI C,By Aa na capa]] w (Gv w (Is (BY))):=by
  by_cases o:j3 R C na
  ·obtain⟨n,rfl⟩:=Int.eq_ofNat_of_zero_le o.1.1
   obtain⟨c,rfl⟩:=Int.eq_ofNat_of_zero_le o.2.1.1
   have hn:n≤64:=by have:=o.1.2;omega
   have U:c≤64:=by have:=o.2.1.2;omega
   have H:na=n*c:=by have:=o.2.2;exact_mod_cast this
   exact MY (X:=fun i j=>xs.getD (i*c+j) 0) G hxa' H hn U (fun _ _ _ _=>rfl) (fun a b _ _=>hxa'.ln _) (by omega)
  ·exact MZ hxa' (by omega) o
 refine key.mono fun e w' h=>?_
 obtain⟨v,rfl,J,I⟩:=h
 exact⟨by rw [show v=_ from J],I⟩
end
end Go.Proofs.YtnpbbknemflpnaaGreat
