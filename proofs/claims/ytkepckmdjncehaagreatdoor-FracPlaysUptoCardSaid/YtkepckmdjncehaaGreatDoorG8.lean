/- Parts Pl8t, Pl8m, Pl8k, Pl8p, joined. -/
import Derived.Test.YtkepckmdjncehaaGreatDoorG7

open Go renaming Addr → aB, Calls → aP, Value → aM, World → a6
open Nat renaming le_refl → aZ, le_trans → a8, zero_le → bJ
open Go.Proofs.Tryz renaming prog → aN
namespace Go.Proofs.YtkepckmdjncehaaGreatDoor
set_option maxHeartbeats 16000000
set_option maxRecDepth 20000
variable {A Aa Aap Aaq Ab Abp Abq Ad Adp Adq Ae Af Ag Bp Bq C:Option aB}{b b1 b2 c ca cap cb cd ce cf cg dp dq n na ne nf ng:Nat}{bs ms:List Nat}{k p q u v x y:Int}{sa sap saq sb sbp sbq sd sdp sdq se sf:Bool}{t:Ans8}{vv:aM}{w:a6}{zs:List Int}
open Go.RowKit
theorem WH {nb:Nat}{nd:Nat}{sg:Bool}(hx:Zi w sa Aa na ca x)(la:na≤1048576)(hy:Zi w sb Ab nb cb y)(lb:nb≤1048576)(hu:Zi w sd Ad nd cd u)(ld:nd≤1048576)(hv:Zi w se Ae ne ce v)(le:ne≤1048576)(hp:Zi w sf Af nf cf p)(lf:nf≤1048576)(hq:Zi w sg Ag ng cg q)(lg:ng≤1048576)(hl:Zl w C n c zs ms)(hn:n≤1048576)(hmb:∀i,ms.getD i 0≤1048576)(hnd:zT zs)(hbs:∀b,b∈bs→b<256)(hlen:bs.length≤1048576):aP aN 23 #[.agg #[no k,.bool sa,we Aa na ca,.bool sb,we Ab nb cb,.bool sd,we Ad nd cd,.bool se,we Ae ne ce,.bool sf,we Af nf cf,.bool sg,we Ag ng cg,.string (aJ bs),we C n c]] w (Gv w (AnsR8 w.heap.size (d6 k x y u v p q bs zs))):=by
 have Lx:ln x≤1048576:=a8 hx.ln la
 have Ly:ln y≤1048576:=a8 hy.ln lb
 have Lu:ln u≤1048576:=a8 hu.ln ld
 have Lv:ln v≤1048576:=a8 hv.ln le
 have Lp:ln p≤1048576:=a8 hp.ln lf
 have Lq:ln q≤1048576:=a8 hq.ln lg
 refine bN Tryz.func23 J (n:=152) J (bq J) (args:= [.agg #[no k,.bool sa,we Aa na ca,.bool sb,we Ab nb cb,.bool sd,we Ad nd cd,.bool se,we Ae ne ce,.bool sf,we Af nf cf,.bool sg,we Ag ng cg,.string (aJ bs),we C n c]]) (bG [(0,.agg #[no k,.bool sa,we Aa na ca,.bool sb,we Ab nb cb,.bool sd,we Ad nd cd,.bool se,we Ae ne ce,.bool sf,we Af nf cf,.bool sg,we Ag ng cg,.string (aJ bs),we C n c])] ⟨rfl,AT⟩ (sr (bx [no k,.bool sa,we Aa na ca,.bool sb,we Ab nb cb,.bool sd,we Ad nd cd,.bool se,we Ae ne ce,.bool sf,we Af nf cf,.bool sg,we Ag ng cg,.string (aJ bs),we C n c] (Ext.refl w) J J J fun g1 _ L _ _ kw=>(bL [F0,S0,F0,S0,F0,S0,S0,I0,.string ⟨#[]⟩,I0] kw L.lt (fun _=>by kernel_rfl) J fun g6 v7 M my _ e8 li=>(a7 (sr (pu (v:= .agg #[F0,S0,F0,S0,F0,S0,S0,I0,.string ⟨#[]⟩,I0]) J (bL [F0,S0,F0,S0,F0,S0,S0,I0,.string ⟨#[]⟩,I0] li M.lt (fun _=>by kernel_rfl) J fun D _ r o _ f pg=>(so m7 r [F0,S0,F0,S0,F0,S0,S0,I0,.string ⟨#[]⟩,I0] pg o J J J J fun dm I e h=>(a7 ?_))))))))))
 obtain⟨iq,E,_,lk,_,_,_⟩:∃lb,lb≤dm.heap.size∧dm.heap.size≤lb∧w.heap.size≤lb∧g1<lb∧g6<lb∧D<lb:=⟨dm.heap.size,aZ _,aZ _,h.size,((L.ext (e8.t f)).vN e).lt,((M.ext f).vN e).lt,I.lt⟩
 refine rU (T:=a6×Ans8×ZC×ZC×ZC×Option aB×Nat) (fun⟨wr,t,k1,k2,X,B,d⟩=> [(2,i5 g6 0),(3,i5 D 0)]) (fun⟨wr,t,k1,k2,X,B,d⟩=>wr) (fun⟨wr,t,k1,k2,X,B,d⟩=>(Ext w wr)∧(d6 k x y u v p q bs zs=t)∧(Bk wr g6 57 [F0,S0,F0,S0,F0,S0,S0,I0,.string ⟨#[]⟩,I0])∧(Bk wr D 57 [.bool k1.s,we k1.A k1.n k1.c,.bool k2.s,we k2.A k2.n k2.c,.bool X.s,we X.A X.n X.c,we B t.L.length d,no t.N,.string (aJ t.S),no t.E])∧(Zr wr w.heap.size k1.s k1.A k1.n k1.c t.F)∧(Zr wr w.heap.size k2.s k2.A k2.n k2.c t.G)∧(Zr wr w.heap.size X.s X.A X.n X.c t.X)∧(Lz none 1048579 w.heap.size wr iq B t.L.length d t.L)∧(iq≤wr.heap.size)∧(ln t.F≤1099511627776∧ln t.G≤1099511627776∧ln t.X≤1099511627776∧(∀c,c∈t.S→c<256)∧t.L.length≤200000000)) ?_ ?_
 ·refine sr (pf g1 0 J (bB J J (bM (fun _=>by kernel_rfl) ((L.ext (e8.t f)).vN e) J) (a7 (bO (aD ?_)))))
  by_cases U:k=1
  ·refine aF (aI J J J true (eP U) (mv 1 J (a7 (aW J (aF (pf g1 9 J (lo aA ((L.ext (e8.t f)).vN e) (a5 sf Af nf cf) J J J (pf g1 11 J (lo aA ((L.ext (e8.t f)).vN e) (a5 sg Ag ng cg) J J J ?_)))))))))
   have py:ln (bP p q)≤1048576:=fR Lp
   have pt:ln (bS p q)≤1048576:=fY Lq
   refine cl (vs:= [O sf Af nf cf,O sg Ag ng cg]) h (pL h.size (hp.ext h) (aK lf J) (hq.ext h) (aK lg J)) J (by kernel_rfl) fun _ _ qf ix H=>?_
   obtain⟨_,_,rfl,⟨jv,iy,ka,jd,kk,jf,ja,jb,rfl,ny,oy⟩,rfl⟩:=qf
   refine mv 1 J (pu (v:= a9 jv iy ka jd kk jf ja jb) J (pu (v:= no (bI q)) J (pf D 0 J ?_)))
   have fz:=(I.ext ix)
   refine so bC fz [.bool jv,we iy ka jd,.bool kk,we jf ja jb,F0,S0,S0,I0,.string ⟨#[]⟩,I0] H o J J J J fun _ ia iu F=>(pf D 9 J (dE J J J (fun _=>by kernel_rfl) J ia (bq J) J [.bool jv,we iy ka jd,.bool kk,we jf ja jb,F0,S0,S0,I0,.string ⟨#[]⟩,no (bI q)] J fun pq nm ik _=>?_))
   have G:=ik.ext F o
   refine aX (bQ (dO (⟨pq,⟨bP p q,bS p q,0,[],0,[],bI q⟩,⟨jv,iy,ka,jd⟩,⟨kk,jf,ja,jb⟩,⟨false,none,0,0⟩,none,0⟩:a6×Ans8×ZC×ZC×ZC×Option aB×Nat) ⟨G,(by unfold d6;rw [if_pos U]),(((((M.ext f).vN e).ext ix).vN iu).vN ik),nm,((ny.updT fz iu).updT ia ik),((oy.updT fz iu).updT ia ik),((((((Zr.zero (w:=v7) (base:=w.heap.size)).ext f).updT r e).ext ix).updT fz iu).updT ia ik),gF,(a8 (a8 (a8 E ix.size) iu.by_.size) ik.by_.size),⟨(aK py J),(aK pt J),(a8 (by decide:ln 0≤0) (by decide)),(fun c Z=>absurd Z (by simp)),(bJ _)⟩⟩ J ⟨rfl,rfl,AT⟩))
  ·refine aF (aI J J J false (fA U) (mv 1 J (a7 (aQ J (aD ?_)))))
   by_cases V:k=2
   ·refine aF (aI J J J true (eP V) (mv 1 J (a7 (aW J (aF (pf g1 1 J (lo bC ((L.ext (e8.t f)).vN e) [.bool sa,we Aa na ca,.bool sb,we Ab nb cb] J J J (pf g1 5 J (lo bC ((L.ext (e8.t f)).vN e) [.bool sd,we Ad nd cd,.bool se,we Ae ne ce] J J J ?_)))))))))
    have nz:ln (bP (x*v+u*y) (y*v))≤2097153:=fR (a8 (dN (cK Lx Lv) (cK Lu Ly)) (by decide))
    have pz:ln (bS (x*v+u*y) (y*v))≤2097152:=fY (cK Ly Lv)
    refine cl (vs:= [a9 sa Aa na ca sb Ab nb cb,a9 sd Ad nd cd se Ae ne ce]) h (I9 h.size (hx.ext h) (aK la J) (hy.ext h) (aK lb J) (hu.ext h) (aK ld J) (hv.ext h) (aK le J)) J (by kernel_rfl) fun _ _ om jh H=>?_
    obtain⟨_,_,rfl,⟨jp,jk,ji,je,kp,jz,jl,kn,rfl,pe,px⟩,rfl⟩:=om
    refine mv 1 J (pu (v:= a9 jp jk ji je kp jz jl kn) J (pu (v:= no (bI (y*v))) J (pf D 0 J ?_)))
    have eh:=(I.ext jh)
    refine so bC eh [.bool jp,we jk ji je,.bool kp,we jz jl kn,F0,S0,S0,I0,.string ⟨#[]⟩,I0] H o J J J J fun _ ic ir F=>(pf D 9 J (dE J J J (fun _=>by kernel_rfl) J ic (bq J) J [.bool jp,we jk ji je,.bool kp,we jz jl kn,F0,S0,S0,I0,.string ⟨#[]⟩,no (bI (y*v))] J fun pk nk ig _=>?_))
    have G:=ig.ext F o
    refine aX (bQ (dO (⟨pk,⟨bP (x*v+u*y) (y*v),bS (x*v+u*y) (y*v),0,[],0,[],bI (y*v)⟩,⟨jp,jk,ji,je⟩,⟨kp,jz,jl,kn⟩,⟨false,none,0,0⟩,none,0⟩:a6×Ans8×ZC×ZC×ZC×Option aB×Nat) ⟨G,(by unfold d6;rw [if_neg U,if_pos V]),(((((M.ext f).vN e).ext jh).vN ir).vN ig),nk,((pe.updT eh ir).updT ic ig),((px.updT eh ir).updT ic ig),((((((Zr.zero (w:=v7) (base:=w.heap.size)).ext f).updT r e).ext jh).updT eh ir).updT ic ig),gF,(a8 (a8 (a8 E jh.size) ir.by_.size) ig.by_.size),⟨(aK nz J),(aK pz J),(a8 (by decide:ln 0≤0) (by decide)),(fun c Z=>absurd Z (by simp)),(bJ _)⟩⟩ J ⟨rfl,rfl,AT⟩))
   ·refine aF (aI J J J false (fA V) (mv 1 J (a7 (aQ J (aD ?_)))))
    by_cases W:k=3
    ·refine aF (aI J J J true (eP W) (mv 1 J (a7 (aW J (aF (pf g1 1 J (lo bC ((L.ext (e8.t f)).vN e) [.bool sa,we Aa na ca,.bool sb,we Ab nb cb] J J J (pf g1 5 J (lo bC ((L.ext (e8.t f)).vN e) [.bool sd,we Ad nd cd,.bool se,we Ae ne ce] J J J ?_)))))))))
     have po:ln (bP (x*v+ -u*y) (y*v))≤2097153:=fR (a8 (dN (cK Lx Lv) (cK (show ln (-u)≤1048576 by rw [g0];exact Lu) Ly)) (by decide))
     have oi:ln (bS (x*v+ -u*y) (y*v))≤2097152:=fY (cK Ly Lv)
     refine cl (vs:= [a9 sa Aa na ca sb Ab nb cb,a9 sd Ad nd cd se Ae ne ce]) h (I7 h.size (hx.ext h) (aK la J) (hy.ext h) (aK lb J) (hu.ext h) (aK ld J) (hv.ext h) (aK le J)) J (by kernel_rfl) fun _ _ pj jn H=>?_
     obtain⟨_,_,rfl,⟨iz,iw,jm,jj,ke,kg,jo,kt,rfl,ow,oq⟩,rfl⟩:=pj
     refine mv 1 J (pu (v:= a9 iz iw jm jj ke kg jo kt) J (pu (v:= no (bI (y*v))) J (pf D 0 J ?_)))
     have ew:=(I.ext jn)
     refine so bC ew [.bool iz,we iw jm jj,.bool ke,we kg jo kt,F0,S0,S0,I0,.string ⟨#[]⟩,I0] H o J J J J fun _ gx iv F=>(pf D 9 J (dE J J J (fun _=>by kernel_rfl) J gx (bq J) J [.bool iz,we iw jm jj,.bool ke,we kg jo kt,F0,S0,S0,I0,.string ⟨#[]⟩,no (bI (y*v))] J fun oo md ij _=>?_))
     have G:=ij.ext F o
     refine aX (bQ (dO (⟨oo,⟨bP (x*v+ -u*y) (y*v),bS (x*v+ -u*y) (y*v),0,[],0,[],bI (y*v)⟩,⟨iz,iw,jm,jj⟩,⟨ke,kg,jo,kt⟩,⟨false,none,0,0⟩,none,0⟩:a6×Ans8×ZC×ZC×ZC×Option aB×Nat) ⟨G,(by unfold d6;rw [if_neg U,if_neg V,if_pos W]),(((((M.ext f).vN e).ext jn).vN iv).vN ij),md,((ow.updT ew iv).updT gx ij),((oq.updT ew iv).updT gx ij),((((((Zr.zero (w:=v7) (base:=w.heap.size)).ext f).updT r e).ext jn).updT ew iv).updT gx ij),gF,(a8 (a8 (a8 E jn.size) iv.by_.size) ij.by_.size),⟨(aK po J),(aK oi J),(a8 (by decide:ln 0≤0) (by decide)),(fun c Z=>absurd Z (by simp)),(bJ _)⟩⟩ J ⟨rfl,rfl,AT⟩))
    ·refine aF (aI J J J false (fA W) (mv 1 J (a7 (aQ J (aD ?_)))))
     by_cases Y:k=4
     ·refine aF (aI J J J true (eP Y) (mv 1 J (a7 (aW J (aF (pf g1 1 J (lo bC ((L.ext (e8.t f)).vN e) [.bool sa,we Aa na ca,.bool sb,we Ab nb cb] J J J (pf g1 5 J (lo bC ((L.ext (e8.t f)).vN e) [.bool sd,we Ad nd cd,.bool se,we Ae ne ce] J J J ?_)))))))))
      have ox:ln (bP (x*u) (y*v))≤2097152:=fR (cK Lx Lu)
      have nx:ln (bS (x*u) (y*v))≤2097152:=fY (cK Ly Lv)
      refine cl (vs:= [a9 sa Aa na ca sb Ab nb cb,a9 sd Ad nd cd se Ae ne ce]) h (T5 h.size (hx.ext h) (aK la J) (hy.ext h) (aK lb J) (hu.ext h) (aK ld J) (hv.ext h) (aK le J)) J (by kernel_rfl) fun _ _ qe jt H=>?_
      obtain⟨_,_,rfl,⟨jr,kb,kf,jc,jy,kr,kc,ks,rfl,og,ov⟩,rfl⟩:=qe
      refine mv 1 J (pu (v:= a9 jr kb kf jc jy kr kc ks) J (pu (v:= no (bI (y*v))) J (pf D 0 J ?_)))
      have fe:=(I.ext jt)
      refine so bC fe [.bool jr,we kb kf jc,.bool jy,we kr kc ks,F0,S0,S0,I0,.string ⟨#[]⟩,I0] H o J J J J fun _ ib im F=>(pf D 9 J (dE J J J (fun _=>by kernel_rfl) J ib (bq J) J [.bool jr,we kb kf jc,.bool jy,we kr kc ks,F0,S0,S0,I0,.string ⟨#[]⟩,no (bI (y*v))] J fun oh me il _=>?_))
      have G:=il.ext F o
      refine aX (bQ (dO (⟨oh,⟨bP (x*u) (y*v),bS (x*u) (y*v),0,[],0,[],bI (y*v)⟩,⟨jr,kb,kf,jc⟩,⟨jy,kr,kc,ks⟩,⟨false,none,0,0⟩,none,0⟩:a6×Ans8×ZC×ZC×ZC×Option aB×Nat) ⟨G,(by unfold d6;rw [if_neg U,if_neg V,if_neg W,if_pos Y]),(((((M.ext f).vN e).ext jt).vN im).vN il),me,((og.updT fe im).updT ib il),((ov.updT fe im).updT ib il),((((((Zr.zero (w:=v7) (base:=w.heap.size)).ext f).updT r e).ext jt).updT fe im).updT ib il),gF,(a8 (a8 (a8 E jt.size) im.by_.size) il.by_.size),⟨(aK ox J),(aK nx J),(a8 (by decide:ln 0≤0) (by decide)),(fun c Z=>absurd Z (by simp)),(bJ _)⟩⟩ J ⟨rfl,rfl,AT⟩))
     ·refine aF (aI J J J false (fA Y) (mv 1 J (a7 (aQ J (aD ?_)))))
      by_cases aa:k=5
      ·refine aF (aI J J J true (eP aa) (mv 1 J (a7 (aW J (aF (pf g1 1 J (lo bC ((L.ext (e8.t f)).vN e) [.bool sa,we Aa na ca,.bool sb,we Ab nb cb] J J J (pf g1 5 J (lo bC ((L.ext (e8.t f)).vN e) [.bool sd,we Ad nd cd,.bool se,we Ae ne ce] J J J ?_)))))))))
       have pr:ln (jE x y u v)≤2097152:=JM Lx Lv
       have ot:ln (jG x y u v)≤2097152:=JN Ly Lu
       refine cl (vs:= [a9 sa Aa na ca sb Ab nb cb,a9 sd Ad nd cd se Ae ne ce]) h (T7 h.size (hx.ext h) (aK la J) (hy.ext h) (aK lb J) (hu.ext h) (aK ld J) (hv.ext h) (aK le J)) J (by kernel_rfl) fun _ _ oe ko H=>?_
       obtain⟨_,_,rfl,⟨jw,kq,jg,kj,jx,kd,ki,ju,rfl,pd,qd⟩,rfl⟩:=oe
       refine mv 1 J (pu (v:= a9 jw kq jg kj jx kd ki ju) J (pu (v:= no (jF y u v)) J (pf D 0 J ?_)))
       have cp:=(I.ext ko)
       refine so bC cp [.bool jw,we kq jg kj,.bool jx,we kd ki ju,F0,S0,S0,I0,.string ⟨#[]⟩,I0] H o J J J J fun _ ct ef F=>(pf D 9 J (dE J J J (fun _=>by kernel_rfl) J ct (bq J) J [.bool jw,we kq jg kj,.bool jx,we kd ki ju,F0,S0,S0,I0,.string ⟨#[]⟩,no (jF y u v)] J fun mq kx av _=>?_))
       have G:=av.ext F o
       refine aX (bQ (dO (⟨mq,⟨jE x y u v,jG x y u v,0,[],0,[],jF y u v⟩,⟨jw,kq,jg,kj⟩,⟨jx,kd,ki,ju⟩,⟨false,none,0,0⟩,none,0⟩:a6×Ans8×ZC×ZC×ZC×Option aB×Nat) ⟨G,(by unfold d6;rw [if_neg U,if_neg V,if_neg W,if_neg Y,if_pos aa]),(((((M.ext f).vN e).ext ko).vN ef).vN av),kx,((pd.updT cp ef).updT ct av),((qd.updT cp ef).updT ct av),((((((Zr.zero (w:=v7) (base:=w.heap.size)).ext f).updT r e).ext ko).updT cp ef).updT ct av),gF,(a8 (a8 (a8 E ko.size) ef.by_.size) av.by_.size),⟨(aK pr J),(aK ot J),(a8 (by decide:ln 0≤0) (by decide)),(fun c Z=>absurd Z (by simp)),(bJ _)⟩⟩ J ⟨rfl,rfl,AT⟩))
      ·refine aF (aI J J J false (fA aa) (mv 1 J (a7 (aQ J (aD ?_)))))
       by_cases ae:k=6
       ·refine aF (aI J J J true (eP ae) (mv 1 J (a7 (aW J (aF (pf g1 1 J (lo bC ((L.ext (e8.t f)).vN e) [.bool sa,we Aa na ca,.bool sb,we Ab nb cb] J J J (pf g1 5 J (lo bC ((L.ext (e8.t f)).vN e) [.bool sd,we Ad nd cd,.bool se,we Ae ne ce] J J J (cl (vs:= [a9 sa Aa na ca sb Ab nb cb,a9 sd Ad nd cd se Ae ne ce]) h (T8 (hx.ext h) (aK la J) (hy.ext h) (aK lb J) (hu.ext h) (aK ld J) (hv.ext h) (aK le J)) J (by kernel_rfl) fun _ _ mf ar H=>?_))))))))))
        obtain⟨_,_,rfl,rfl,rfl⟩:=mf
        refine mv 1 J (pu (v:= no (bE (bP (x*v+ -u*y) (y*v)) 0)) J (pu (v:= no (bI (y*v))) J (pf D 7 J ?_)))
        have dg:=(I.ext ar)
        refine dE J J J (fun _=>by kernel_rfl) J dg (bq J) J [F0,S0,F0,S0,F0,S0,S0,no (bE (bP (x*v+ -u*y) (y*v)) 0),.string ⟨#[]⟩,I0] J fun _ cm bg _=>?_
        have F:=bg.ext H o
        refine pf D 9 J (dE J J J (fun _=>by kernel_rfl) J cm (bq J) J [F0,S0,F0,S0,F0,S0,S0,no (bE (bP (x*v+ -u*y) (y*v)) 0),.string ⟨#[]⟩,no (bI (y*v))] J fun mn lp aw _=>?_)
        have G:=aw.ext F o
        refine aX (bQ (dO (⟨mn,⟨0,0,0,[],bE (bP (x*v+ -u*y) (y*v)) 0,[],bI (y*v)⟩,⟨false,none,0,0⟩,⟨false,none,0,0⟩,⟨false,none,0,0⟩,none,0⟩:a6×Ans8×ZC×ZC×ZC×Option aB×Nat) ⟨G,(by unfold d6;rw [if_neg U,if_neg V,if_neg W,if_neg Y,if_neg aa,if_pos ae]),(((((M.ext f).vN e).ext ar).vN bg).vN aw),lp,((((((Zr.zero (w:=v7) (base:=w.heap.size)).ext f).updT r e).ext ar).updT dg bg).updT cm aw),((((((Zr.zero (w:=v7) (base:=w.heap.size)).ext f).updT r e).ext ar).updT dg bg).updT cm aw),((((((Zr.zero (w:=v7) (base:=w.heap.size)).ext f).updT r e).ext ar).updT dg bg).updT cm aw),gF,(a8 (a8 (a8 E ar.size) bg.by_.size) aw.by_.size),⟨(a8 (by decide:ln 0≤0) (by decide)),(a8 (by decide:ln 0≤0) (by decide)),(a8 (by decide:ln 0≤0) (by decide)),(fun c Z=>absurd Z (by simp)),(bJ _)⟩⟩ J ⟨rfl,rfl,AT⟩))
       ·refine aF (aI J J J false (fA ae) (mv 1 J (a7 (aQ J (aD ?_)))))
        by_cases aq:k=7
        ·refine aF (aI J J J true (eP aq) (mv 1 J (a7 (aW J (aF (pf g1 1 J (lo bC ((L.ext (e8.t f)).vN e) [.bool sa,we Aa na ca,.bool sb,we Ab nb cb] J J J ?_)))))))
         have ml:ln (qF x y)≤1048578:=JH Lx
         refine cl (vs:= [a9 sa Aa na ca sb Ab nb cb]) h (PE h.size (hx.ext h) (aK la J) (hy.ext h) (aK lb J)) J (by kernel_rfl) fun _ _ mt dr H=>?_
         obtain⟨_,_,rfl,⟨fo,en,gg,ge,rfl,mz⟩,rfl⟩:=mt
         refine mv 1 J (pu (v:= O fo en gg ge) J (pu (v:= no (eZ y)) J (pf D 4 J ?_)))
         have ch:=(I.ext dr)
         refine so aA ch [F0,S0,F0,S0,.bool fo,we en gg ge,S0,I0,.string ⟨#[]⟩,I0] H o J J J J fun _ cv dz F=>(pf D 9 J (dE J J J (fun _=>by kernel_rfl) J cv (bq J) J [F0,S0,F0,S0,.bool fo,we en gg ge,S0,I0,.string ⟨#[]⟩,no (eZ y)] J fun nj ll bo _=>?_))
         have G:=bo.ext F o
         refine aX (bQ (dO (⟨nj,⟨0,0,qF x y,[],0,[],eZ y⟩,⟨false,none,0,0⟩,⟨false,none,0,0⟩,⟨fo,en,gg,ge⟩,none,0⟩:a6×Ans8×ZC×ZC×ZC×Option aB×Nat) ⟨G,(by unfold d6;rw [if_neg U,if_neg V,if_neg W,if_neg Y,if_neg aa,if_neg ae,if_pos aq]),(((((M.ext f).vN e).ext dr).vN dz).vN bo),ll,((((((Zr.zero (w:=v7) (base:=w.heap.size)).ext f).updT r e).ext dr).updT ch dz).updT cv bo),((((((Zr.zero (w:=v7) (base:=w.heap.size)).ext f).updT r e).ext dr).updT ch dz).updT cv bo),((mz.updT ch dz).updT cv bo),gF,(a8 (a8 (a8 E dr.size) dz.by_.size) bo.by_.size),⟨(a8 (by decide:ln 0≤0) (by decide)),(a8 (by decide:ln 0≤0) (by decide)),(aK ml J),(fun c Z=>absurd Z (by simp)),(bJ _)⟩⟩ J ⟨rfl,rfl,AT⟩))
        ·refine aF (aI J J J false (fA aq) (mv 1 J (a7 (aQ J (aD ?_)))))
         by_cases ck:k=8
         ·refine aF (aI J J J true (eP ck) (mv 1 J (a7 (aW J (aF (pf g1 1 J (lo bC ((L.ext (e8.t f)).vN e) [.bool sa,we Aa na ca,.bool sb,we Ab nb cb] J J J ?_)))))))
          have nc:ln (lH x y)≤1048577:=JJ Lx
          refine cl (vs:= [a9 sa Aa na ca sb Ab nb cb]) h (PD h.size (hx.ext h) (aK la J) (hy.ext h) (aK lb J)) J (by kernel_rfl) fun _ _ mr dl H=>?_
          obtain⟨_,_,rfl,⟨ga,gj,gy,gn,rfl,ma⟩,rfl⟩:=mr
          refine mv 1 J (pu (v:= O ga gj gy gn) J (pu (v:= no (bI y)) J (pf D 4 J ?_)))
          have ci:=(I.ext dl)
          refine so aA ci [F0,S0,F0,S0,.bool ga,we gj gy gn,S0,I0,.string ⟨#[]⟩,I0] H o J J J J fun _ df dh F=>(pf D 9 J (dE J J J (fun _=>by kernel_rfl) J df (bq J) J [F0,S0,F0,S0,.bool ga,we gj gy gn,S0,I0,.string ⟨#[]⟩,no (bI y)] J fun mg lu bj _=>?_))
          have G:=bj.ext F o
          refine aX (bQ (dO (⟨mg,⟨0,0,lH x y,[],0,[],bI y⟩,⟨false,none,0,0⟩,⟨false,none,0,0⟩,⟨ga,gj,gy,gn⟩,none,0⟩:a6×Ans8×ZC×ZC×ZC×Option aB×Nat) ⟨G,(by unfold d6;rw [if_neg U,if_neg V,if_neg W,if_neg Y,if_neg aa,if_neg ae,if_neg aq,if_pos ck]),(((((M.ext f).vN e).ext dl).vN dh).vN bj),lu,((((((Zr.zero (w:=v7) (base:=w.heap.size)).ext f).updT r e).ext dl).updT ci dh).updT df bj),((((((Zr.zero (w:=v7) (base:=w.heap.size)).ext f).updT r e).ext dl).updT ci dh).updT df bj),((ma.updT ci dh).updT df bj),gF,(a8 (a8 (a8 E dl.size) dh.by_.size) bj.by_.size),⟨(a8 (by decide:ln 0≤0) (by decide)),(a8 (by decide:ln 0≤0) (by decide)),(aK nc J),(fun c Z=>absurd Z (by simp)),(bJ _)⟩⟩ J ⟨rfl,rfl,AT⟩))
         ·refine aF (aI J J J false (fA ck) (mv 1 J (a7 (aQ J (aD ?_)))))
          by_cases du:k=9
          ·refine aF (aI J J J true (eP du) (mv 1 J (a7 (aW J (aF (pf g1 1 J (lo bC ((L.ext (e8.t f)).vN e) [.bool sa,we Aa na ca,.bool sb,we Ab nb cb] J J J (cl (vs:= [a9 sa Aa na ca sb Ab nb cb]) h (PC (hx.ext h) (aK la J) (hy.ext h) (aK lb J)) J (by kernel_rfl) fun _ _ mw ba H=>?_))))))))
           obtain⟨_,_,rfl,rfl,rfl⟩:=mw
           refine mv 1 J (pu (v:= .string (aJ (j5 x y))) J (pu (v:= no (bI y)) J (pf D 8 J ?_)))
           have cz:=(I.ext ba)
           refine dE J J J (fun _=>by kernel_rfl) J cz (bq J) J [F0,S0,F0,S0,F0,S0,S0,I0,.string (aJ (j5 x y)),I0] J fun _ cu bi _=>?_
           have F:=bi.ext H o
           refine pf D 9 J (dE J J J (fun _=>by kernel_rfl) J cu (bq J) J [F0,S0,F0,S0,F0,S0,S0,I0,.string (aJ (j5 x y)),no (bI y)] J fun nl lh az _=>?_)
           have G:=az.ext F o
           refine aX (bQ (dO (⟨nl,⟨0,0,0,[],0,j5 x y,bI y⟩,⟨false,none,0,0⟩,⟨false,none,0,0⟩,⟨false,none,0,0⟩,none,0⟩:a6×Ans8×ZC×ZC×ZC×Option aB×Nat) ⟨G,(by unfold d6;rw [if_neg U,if_neg V,if_neg W,if_neg Y,if_neg aa,if_neg ae,if_neg aq,if_neg ck,if_pos du]),(((((M.ext f).vN e).ext ba).vN bi).vN az),lh,((((((Zr.zero (w:=v7) (base:=w.heap.size)).ext f).updT r e).ext ba).updT cz bi).updT cu az),((((((Zr.zero (w:=v7) (base:=w.heap.size)).ext f).updT r e).ext ba).updT cz bi).updT cu az),((((((Zr.zero (w:=v7) (base:=w.heap.size)).ext f).updT r e).ext ba).updT cz bi).updT cu az),gF,(a8 (a8 (a8 E ba.size) bi.by_.size) az.by_.size),⟨(a8 (by decide:ln 0≤0) (by decide)),(a8 (by decide:ln 0≤0) (by decide)),(a8 (by decide:ln 0≤0) (by decide)),FJ,(bJ _)⟩⟩ J ⟨rfl,rfl,AT⟩))
          ·refine aF (aI J J J false (fA du) (mv 1 J (a7 (aQ J (aD ?_)))))
           by_cases ak:k=10
           ·refine aF (aI J J J true (eP ak) (mv 1 J (a7 (aW J (aF (pf g1 13 J (bB J J (bM (fun _=>by kernel_rfl) ((L.ext (e8.t f)).vN e) J) (dQ J J (vs:= [.string (aJ bs)]) (by kernel_rfl) (by decide) ((t7 hbs hlen).2.2 h.size).1 ?_))))))))
            rintro _ _ ⟨_,rfl,mh,dt⟩
            refine dR ?_
            have H:=h.trans dt
            obtain⟨_,_,rfl,⟨fh,gf,fb,ie,ei,gk,fp,fy,rfl,nu,mi⟩,rfl⟩:=mh
            refine mv 1 J (pu (v:= a9 fh gf fb ie ei gk fp fy) J (pu (v:= no ((eO bs).2.2)) J (pf D 0 J ?_)))
            have cj:=(I.ext dt)
            refine so bC cj [.bool fh,we gf fb ie,.bool ei,we gk fp fy,F0,S0,S0,I0,.string ⟨#[]⟩,I0] H o J J J J fun _ bw dy F=>(pf D 9 J (dE J J J (fun _=>by kernel_rfl) J bw (bq J) J [.bool fh,we gf fb ie,.bool ei,we gk fp fy,F0,S0,S0,I0,.string ⟨#[]⟩,no ((eO bs).2.2)] J fun ni kz bm _=>?_))
            have G:=bm.ext F o
            refine aX (bQ (dO (⟨ni,⟨(eO bs).1,(eO bs).2.1,0,[],0,[],(eO bs).2.2⟩,⟨fh,gf,fb,ie⟩,⟨ei,gk,fp,fy⟩,⟨false,none,0,0⟩,none,0⟩:a6×Ans8×ZC×ZC×ZC×Option aB×Nat) ⟨G,(by unfold d6;rw [if_neg U,if_neg V,if_neg W,if_neg Y,if_neg aa,if_neg ae,if_neg aq,if_neg ck,if_neg du,if_pos ak]),(((((M.ext f).vN e).ext dt).vN dy).vN bm),kz,((nu.updT cj dy).updT bw bm),((mi.updT cj dy).updT bw bm),((((((Zr.zero (w:=v7) (base:=w.heap.size)).ext f).updT r e).ext dt).updT cj dy).updT bw bm),gF,(a8 (a8 (a8 E dt.size) dy.by_.size) bm.by_.size),⟨(a8 (t7 hbs hlen).1 (by decide)),(a8 (t7 hbs hlen).2.1 (by decide)),(a8 (by decide:ln 0≤0) (by decide)),(fun c Z=>absurd Z (by simp)),(bJ _)⟩⟩ J ⟨rfl,rfl,AT⟩))
           ·refine aF (aI J J J false (fA ak) (mv 1 J (a7 (aQ J (aD ?_)))))
            by_cases au:k=11
            ·refine aF (aI J J J true (eP au) (mv 1 J (a7 (aW J (aF (pf g1 1 J (lo bC ((L.ext (e8.t f)).vN e) [.bool sa,we Aa na ca,.bool sb,we Ab nb cb] J J J ?_)))))))
             have qg:g1<dm.heap.size:=((L.ext (e8.t f)).vN e).lt
             have qh:g6<dm.heap.size:=((M.ext f).vN e).lt
             have qi:D<dm.heap.size:=I.lt
             have mx:iq≤dm.heap.size:=E
             refine cl (vs:= [a9 sa Aa na ca sb Ab nb cb]) h (PF h.size (hx.ext h) (aK la J) (hy.ext h) (aK lb J)) J (by kernel_rfl) fun _ _ nh bd H=>?_
             obtain⟨_,_,rfl,⟨go,fg,rfl,io⟩,r190_1⟩:=nh
             have ez:=io.block
             obtain rfl:=r190_1
             refine mv 1 J (pu (v:= we go ((jI x y).length) fg) J (pu (v:= no (bI y)) J (pf D 6 J ?_)))
             have ah:=(I.ext bd)
             refine dE J J J (fun _=>by kernel_rfl) J ah (bq J) J [F0,S0,F0,S0,F0,S0,we go ((jI x y).length) fg,I0,.string ⟨#[]⟩,I0] J fun _ aj ap _=>?_
             have F:=ap.ext H o
             refine pf D 9 J (dE J J J (fun _=>by kernel_rfl) J aj (bq J) J [F0,S0,F0,S0,F0,S0,we go ((jI x y).length) fg,I0,.string ⟨#[]⟩,no (bI y)] J fun mo ku am _=>?_)
             have G:=am.ext F o
             refine aX (bQ (dO (⟨mo,⟨0,0,0,jI x y,0,[],bI y⟩,⟨false,none,0,0⟩,⟨false,none,0,0⟩,⟨false,none,0,0⟩,go,fg⟩:a6×Ans8×ZC×ZC×ZC×Option aB×Nat) ⟨G,(by unfold d6;rw [if_neg U,if_neg V,if_neg W,if_neg Y,if_neg aa,if_neg ae,if_neg aq,if_neg ck,if_neg du,if_neg ak,if_pos au]),(((((M.ext f).vN e).ext bd).vN ap).vN am),ku,((((((Zr.zero (w:=v7) (base:=w.heap.size)).ext f).updT r e).ext bd).updT ah ap).updT aj am),((((((Zr.zero (w:=v7) (base:=w.heap.size)).ext f).updT r e).ext bd).updT ah ap).updT aj am),((((((Zr.zero (w:=v7) (base:=w.heap.size)).ext f).updT r e).ext bd).updT ah ap).updT aj am),((((io.updT ah ap (fun p hp=>by have:=ez p hp;omega)).updT aj am (fun p hp=>by have:=ez p hp;omega))).mono (aZ _) (aZ _) mx),(a8 (a8 (a8 E bd.size) ap.by_.size) am.by_.size),⟨(a8 (by decide:ln 0≤0) (by decide)),(a8 (by decide:ln 0≤0) (by decide)),(a8 (by decide:ln 0≤0) (by decide)),(fun c Z=>absurd Z (by simp)),(LW Lx Ly)⟩⟩ J ⟨rfl,rfl,AT⟩))
            ·refine aF (aI J J J false (fA au) (mv 1 J (a7 (aQ J (aD ?_)))))
             by_cases dw:k=12
             ·refine aF (aI J J J true (eP dw) (mv 1 J (a7 (aW J (aF (pf g1 14 J (bB J J (bM (fun _=>by kernel_rfl) ((L.ext (e8.t f)).vN e) J) (cl (vs:= [we C n c]) h (PB h.size (hl.ext h) hn hmb hnd) J (by kernel_rfl) fun _ _ lw ft H=>?_))))))))
              obtain⟨_,_,rfl,⟨em,fi,fj,fc,fd,gi,fq,fx,rfl,lz,mb⟩,rfl⟩:=lw
              refine mv 1 J (pu (v:= a9 em fi fj fc fd gi fq fx) J (pu (v:= no (l9 zs)) J (pf D 0 J ?_)))
              have de:=(I.ext ft)
              refine so bC de [.bool em,we fi fj fc,.bool fd,we gi fq fx,F0,S0,S0,I0,.string ⟨#[]⟩,I0] H o J J J J fun _ bu dx F=>(pf D 9 J (dE J J J (fun _=>by kernel_rfl) J bu (bq J) J [.bool em,we fi fj fc,.bool fd,we gi fq fx,F0,S0,S0,I0,.string ⟨#[]⟩,no (l9 zs)] J fun mc kv bf _=>?_))
              have G:=bf.ext F o
              refine aX (bQ (dO (⟨mc,⟨mJ zs,mK zs,0,[],0,[],l9 zs⟩,⟨em,fi,fj,fc⟩,⟨fd,gi,fq,fx⟩,⟨false,none,0,0⟩,none,0⟩:a6×Ans8×ZC×ZC×ZC×Option aB×Nat) ⟨G,(by unfold d6;rw [if_neg U,if_neg V,if_neg W,if_neg Y,if_neg aa,if_neg ae,if_neg aq,if_neg ck,if_neg du,if_neg ak,if_neg au,if_pos dw]),(((((M.ext f).vN e).ext ft).vN dx).vN bf),kv,((lz.updT de dx).updT bu bf),((mb.updT de dx).updT bu bf),((((((Zr.zero (w:=v7) (base:=w.heap.size)).ext f).updT r e).ext ft).updT de dx).updT bu bf),gF,(a8 (a8 (a8 E ft.size) dx.by_.size) bf.by_.size),⟨(a8 (yD hnd).1 (by decide)),(a8 (yD hnd).2 (by decide)),(a8 (by decide:ln 0≤0) (by decide)),(fun c Z=>absurd Z (by simp)),(bJ _)⟩⟩ J ⟨rfl,rfl,AT⟩))
             ·refine aF (aI J J J false (fA dw) (mv 1 J (a7 (aQ J (aD ?_)))))
              by_cases gr:k=13
              ·refine aF (aI J J J true (eP gr) (mv 1 J (a7 (aW J (aF (pf g1 9 J (lo aA ((L.ext (e8.t f)).vN e) (a5 sf Af nf cf) J J J (pf g1 11 J (lo aA ((L.ext (e8.t f)).vN e) (a5 sg Ag ng cg) J J J (cl (vs:= [O sf Af nf cf,O sg Ag ng cg]) h (SV h.size (hp.ext h) (aK lf J) (hq.ext h) (aK lg J)) J (by kernel_rfl) fun _ _ mu ej H=>?_))))))))))
               obtain⟨_,_,rfl,⟨gc,fv,fw,ey,fm,el,gb,fk,rfl,nt,mj⟩,rfl⟩:=mu
               refine mv 1 J (pu (v:= a9 gc fv fw ey fm el gb fk) J (pu (v:= no (j9 q p)) J (pf D 0 J ?_)))
               have bp:=(I.ext ej)
               refine so bC bp [.bool gc,we fv fw ey,.bool fm,we el gb fk,F0,S0,S0,I0,.string ⟨#[]⟩,I0] H o J J J J fun _ da eg F=>(pf D 9 J (dE J J J (fun _=>by kernel_rfl) J da (bq J) J [.bool gc,we fv fw ey,.bool fm,we el gb fk,F0,S0,S0,I0,.string ⟨#[]⟩,no (j9 q p)] J fun mp lj bh _=>?_))
               have G:=bh.ext F o
               refine aX (bQ (dO (⟨mp,⟨kB q p,kC q p,0,[],0,[],j9 q p⟩,⟨gc,fv,fw,ey⟩,⟨fm,el,gb,fk⟩,⟨false,none,0,0⟩,none,0⟩:a6×Ans8×ZC×ZC×ZC×Option aB×Nat) ⟨G,(by unfold d6;rw [if_neg U,if_neg V,if_neg W,if_neg Y,if_neg aa,if_neg ae,if_neg aq,if_neg ck,if_neg du,if_neg ak,if_neg au,if_neg dw,if_pos gr]),(((((M.ext f).vN e).ext ej).vN eg).vN bh),lj,((nt.updT bp eg).updT da bh),((mj.updT bp eg).updT da bh),((((((Zr.zero (w:=v7) (base:=w.heap.size)).ext f).updT r e).ext ej).updT bp eg).updT da bh),gF,(a8 (a8 (a8 E ej.size) eg.by_.size) bh.by_.size),⟨(a8 (yE Lq).1 (by decide)),(a8 (yE Lq).2 (by decide)),(a8 (by decide:ln 0≤0) (by decide)),(fun c Z=>absurd Z (by simp)),(bJ _)⟩⟩ J ⟨rfl,rfl,AT⟩))
              ·refine aF (aI J J J false (fA gr) (mv 1 J (a7 (aQ J (aY (bQ (dO (⟨dm,⟨0,0,0,[],0,[],0⟩,⟨false,none,0,0⟩,⟨false,none,0,0⟩,⟨false,none,0,0⟩,none,0⟩:a6×Ans8×ZC×ZC×ZC×Option aB×Nat) ⟨h,(by unfold d6;rw [if_neg U,if_neg V,if_neg W,if_neg Y,if_neg aa,if_neg ae,if_neg aq,if_neg ck,if_neg du,if_neg ak,if_neg au,if_neg dw,if_neg gr]),((M.ext f).vN e),I,(((Zr.zero (w:=v7) (base:=w.heap.size)).ext f).updT r e),(((Zr.zero (w:=v7) (base:=w.heap.size)).ext f).updT r e),(((Zr.zero (w:=v7) (base:=w.heap.size)).ext f).updT r e),gF,E,⟨(a8 (by decide:ln 0≤0) (by decide)),(a8 (by decide:ln 0≤0) (by decide)),(a8 (by decide:ln 0≤0) (by decide)),(fun c Z=>absurd Z (by simp)),(bJ _)⟩⟩ J ⟨rfl,rfl,AT⟩)))))))
 ·rintro⟨wr,t,k1,k2,X,B,d⟩ ⟨kw,ht,b_2,b_3,oa,ou,oz,jq,_,ph⟩
  refine cR [(2,i5 g6 0),(3,i5 D 0)] wr J ⟨rfl,rfl,AT⟩ ?_
  have nw:=jq.block
  have ky:∀p,B=some p→p.block≠g6:=fun p hp=>by have:=jq.block p hp;omega
  have pm:∀p,B=some p→p.block≠D:=fun p hp=>by have:=jq.block p hp;omega
  refine sr (lo m7 b_3 [.bool k1.s,we k1.A k1.n k1.c,.bool k2.s,we k2.A k2.n k2.c,.bool X.s,we X.A X.n X.c,we B t.L.length d,no t.N,.string (aJ t.S),no t.E] J J J ?_)
  have ag:=b_2
  refine so m7 ag [.bool k1.s,we k1.A k1.n k1.c,.bool k2.s,we k2.A k2.n k2.c,.bool X.s,we X.A X.n X.c,we B t.L.length d,no t.N,.string (aJ t.S),no t.E] kw my J J J J fun _ lm fa li=>(a7 (aV (aU [.agg #[.bool k1.s,we k1.A k1.n k1.c,.bool k2.s,we k2.A k2.n k2.c,.bool X.s,we X.A X.n X.c,we B t.L.length d,no t.N,.string (aJ t.S),no t.E]] J ⟨⟨_,rfl,bH m7 lm [.bool k1.s,we k1.A k1.n k1.c,.bool k2.s,we k2.A k2.n k2.c,.bool X.s,we X.A X.n X.c,we B t.L.length d,no t.N,.string (aJ t.S),no t.E] J (bq J) rfl⟩,AT⟩ ?_)))
  exact⟨_,rfl,AnsR8.of ht ⟨_,_,_,_,_,_,_,_,_,_,_,_,_,_,rfl,(oa.updT ag fa),(ou.updT ag fa),(oz.updT ag fa),(((jq.updT ag fa ky)).mono (aZ _) (aZ _) lk),ph⟩,li⟩
theorem WJ (hb:b≤w.heap.size)(h:Op8 w k x y u v p q bs zs n vv)(hbs:∀b,b∈bs→b<256)(hlen:bs.length≤1048576):aP aN 23 #[vv] w (Gv w (AnsR8 b (d6 k x y u v p q bs zs))):=by
 obtain⟨sa,Aa,na,ca,sb,Ab,nb,cb,sd,Ad,nd,cd,se,Ae,ne,ce,sf,Af,nf,cf,sg,Ag,ng,cg,C,c,ms,rfl,h1,h2,L,I,V,U,M,H,G,f,D,r,e,E,o,F⟩:=h
 exact (WH h1 h2 L I V U M H G f D r e E o F hbs hlen).mono (Gv.imp (AnsR8.imp hb))
theorem WZ (hx:Zi w sa Aa na ca x)(la:na≤1048576):aP aN 81 #[O sa Aa na ca] w (Gv w (ZOR w.heap.size sa na x)):=by
 have bi:=hx
 obtain⟨xs,ao,aq⟩:=bi
 have Lx:ln x≤1048576:=a8 hx.ln la
 refine bN Tryz.func81 J (n:=10) J (bq J) (args:= [O sa Aa na ca]) (bG [(0,O sa Aa na ca)] ⟨rfl,AT⟩ (sr (bx (a5 sa Aa na ca) (Ext.refl w) J J J fun g1 _ I _ _ ba=>(bL [F0,S0] ba I.lt (fun _=>by kernel_rfl) J fun _ v7 au ak _ e8 G=>(a7 (aD ?_))))))
 refine dG bY 7 [] [Is (i5 g1 0),Is (.bool sa),fun v' w'=>∃g,v'= we (some ⟨g,0,none⟩) 0 0∧v7.heap.size≤g∧Bk w' g 65 [],Is (i5 g1 1),Is (we Aa na ca),fun v' w'=>∃A c,v'= we A na c∧Own w' w.heap.size 65 1 A na c (xs.map bF),ZOR w.heap.size sa na x] [[],[0],[],[],[3],[2,4],[1,5]] [[],[0],[],[],[3],[2,3,4],[0,1,2,3,4,5],[0,1,2,3,4,5,6]] rfl
  (aH J J (aE J J ?_) (aH J J (aE J J ?_) (aH J J (aE J J ?_) (aH J J (aE J J ?_) (aH J J (aE J J ?_) (aH J J (aE J J ?_) (aH J J (aE J J ?_) d9))))))) ?_
 ·exact fun _ _=>aC (pf g1 0 J (aG J aL J))
 ·exact fun _ aw=>dk J J (aC (bB J J (bM fM (I.ext (e8.t aw)) J) (aG J aL J)))
 ·intro _ W
  have f:=G.trans W
  refine aC (iO J J (k:=0) (e:=65) [] (fun _=>by kernel_rfl) fun bj _ nb=>?_)
  have X:=nb.bk
  have aj:=nb.ext
  have ah:v7.heap.size≤bj:=by rw [←nb.at_];exact W.size
  clear nb
  have L:=f.trans aj
  exact aG J aj ⟨_,rfl,ah,X⟩
 ·exact fun _ _=>aC (pf g1 1 J (aG J aL J))
 ·exact fun _ bd=>dk J J (aC (bB J J (bM dS (I.ext (e8.t bd)) J) (aG J aL J)))
 ·intro _ bg
  have f:=G.trans bg
  refine aT J J fun _ _ bh pU av=>?_
  obtain⟨_,rfl,H,h⟩:=bh
  have h:=h.ext av
  refine dk J J (aC (OE J J J Tryz.underlying22 iD J (by decide) (a8 G.size H) f.size h (ao.ext f).rv (zP xs) (by omega) (by decide) fun _ _ _ Z ai=>?_))
  have L:=f.trans ai
  exact aG J ai ⟨_,_,rfl,Z⟩
 ·intro _ _
  refine dk J J (aT J J fun _ _ bm _ ar=>?_)
  obtain⟨U,aa,rfl,F⟩:=bm
  have F:=F.ext ar
  refine aC (pu (v:= O sa U na aa) J ?_)
  exact aG J aL ⟨_,_,rfl,(show Zo _ _ sa _ _ _ x from⟨xs,F,ao.wf,aq⟩)⟩
 ·intro _ ab
  have f:=G.trans ab
  refine dk J J (dk J J (aT J J fun _ _ az _ bf=>?_))
  obtain⟨_,rfl,_,D⟩:=az
  have D:=D.ext bf
  refine dk J J (dk J J (aT J J fun _ _ am _ ag=>?_))
  obtain⟨_,_,rfl,r⟩:=am
  have r:=r.ext ag
  refine aT J J fun _ _ ae _ V=>?_
  obtain⟨o,q,rfl,p⟩:=ae
  have p:=p.ext V
  refine aC ?_
  have E:=(au.ext ab)
  refine so aA E (a5 sa o na q) f ak J J J J fun _ M Y L=>(aX (dC (aO (aV (aU [O sa o na q] J ⟨⟨_,rfl,bH aA M (a5 sa o na q) J (bq J) rfl⟩,AT⟩ ?_)))))
  exact⟨_,rfl,⟨_,_,rfl,(p.updT E Y)⟩,L⟩
theorem rQ (hb:b≤w.heap.size)(hx:Zi w sa Aa na ca x)(la:na≤1048576):aP aN 81 #[O sa Aa na ca] w (Gv w (ZOR b sa na x)):=(WZ hx la).mono (Gv.imp (ZOR.imp hb))
theorem X2 {nap:Nat}{nbp cbp:Nat}{ndp cdp:Nat}{naq caq:Nat}{nbq cbq:Nat}{ndq cdq:Nat}(zap:Zr w b1 sap Aap nap cap t.F)(zbp:Zr w b1 sbp Abp nbp cbp t.G)(zdp:Zr w b1 sdp Adp ndp cdp t.X)(lzp:Lz none 1048579 b1 w b1 Bp t.L.length dp t.L)(hbp:b1≤w.heap.size)(zaq:Zr w b2 saq Aaq naq caq t.F)(zbq:Zr w b2 sbq Abq nbq cbq t.G)(zdq:Zr w b2 sdq Adq ndq cdq t.X)(lzq:Lz none 1048579 b2 w b2 Bq t.L.length dq t.L)(hbq:b2≤w.heap.size)(lF:ln t.F≤1099511627776)(lG:ln t.G≤1099511627776)(lX:ln t.X≤1099511627776)(lt:∀c,c∈t.S→c<256)(hn:t.L.length≤200000000):aP aN 25 #[.agg #[.bool sap,we Aap nap cap,.bool sbp,we Abp nbp cbp,.bool sdp,we Adp ndp cdp,we Bp t.L.length dp,no t.N,.string (aJ t.S),no t.E],.agg #[.bool saq,we Aaq naq caq,.bool sbq,we Abq nbq cbq,.bool sdq,we Adq ndq cdq,we Bq t.L.length dq,no t.N,.string (aJ t.S),no t.E]] w (Gv w (Is (AI))):=by
 refine bN Tryz.func25 J (n:=65) J (bq J) (args:= [.agg #[.bool sap,we Aap nap cap,.bool sbp,we Abp nbp cbp,.bool sdp,we Adp ndp cdp,we Bp t.L.length dp,no t.N,.string (aJ t.S),no t.E],.agg #[.bool saq,we Aaq naq caq,.bool sbq,we Abq nbq cbq,.bool sdq,we Adq ndq cdq,we Bq t.L.length dq,no t.N,.string (aJ t.S),no t.E]]) (bG [(0,.agg #[.bool sap,we Aap nap cap,.bool sbp,we Abp nbp cbp,.bool sdp,we Adp ndp cdp,we Bp t.L.length dp,no t.N,.string (aJ t.S),no t.E]),(1,.agg #[.bool saq,we Aaq naq caq,.bool sbq,we Abq nbq cbq,.bool sdq,we Adq ndq cdq,we Bq t.L.length dq,no t.N,.string (aJ t.S),no t.E])] ⟨rfl,rfl,AT⟩ (aD ?_))
 have ci:=lzp.block
 have ch:=lzq.block
 refine aF (uI J J (vs:= [.bool sap,we Aap nap cap,.bool sbp,we Abp nbp cbp,.bool sdp,we Adp ndp cdp,we Bp t.L.length dp,no t.N,.string (aJ t.S),no t.E]) J (by decide) fun r _ nb=>?_)
 have ao:=nb.bk
 have cv:w.heap.size≤r:=by rw [←nb.at_];exact (Ext.refl w).size
 have cu:∀p,Bp=some p→p.block≠r:=fun p hp=>by have:=(lzp).block p hp;have:=nb.at_;omega
 have ct:∀p,Bq=some p→p.block≠r:=fun p hp=>by have:=(lzq).block p hp;have:=nb.at_;omega
 have e5:=nb.ext
 clear nb
 have h:=(Ext.refl w).trans e5
 refine uI J J (vs:= [.bool saq,we Aaq naq caq,.bool sbq,we Abq nbq cbq,.bool sdq,we Adq ndq cdq,we Bq t.L.length dq,no t.N,.string (aJ t.S),no t.E]) J (by decide) fun f bf nb=>?_
 have L:=nb.bk
 have cm:w.heap.size≤f:=by rw [←nb.at_];exact h.size
 have cz:r<f:=by rw [←nb.at_];exact ao.lt
 have ck:∀p,Bp=some p→p.block≠f:=fun p hp=>by have:=((lzp.ext e5)).block p hp;have:=nb.at_;omega
 have cj:∀p,Bq=some p→p.block≠f:=fun p hp=>by have:=((lzq.ext e5)).block p hp;have:=nb.at_;omega
 have E:=nb.ext
 clear nb
 have D:=h.trans E
 refine mv 1 J (a7 (aD (sr (pf r 6 J (bB J J (bM (fun _=>by kernel_rfl) (ao.ext E) J) (pu (v:= no ((t.L.length:Nat):Int)) J (pf f 6 J (bB J J (bM (fun _=>by kernel_rfl) L J) (pu (v:= no ((t.L.length:Nat):Int)) J (aI J J J false (vU (a:=t.L.length) (b:=t.L.length) J J) (a7 (aQ J (aY ?_)))))))))))))
 refine aO (aD (sr (mv 1 J (a7 (bO ?_)))))
 refine d8 (T:=a6×Nat)
  (fun⟨wr,i⟩=> [(2,i5 r 0),(3,i5 f 0),(4,AS),(5,no i)])
  (fun⟨wr,i⟩=>wr)
  (fun⟨wr,i⟩=>(Ext w wr)∧(i≤t.L.length)∧(Bk wr r 57 [.bool sap,we Aap nap cap,.bool sbp,we Abp nbp cbp,.bool sdp,we Adp ndp cdp,we Bp t.L.length dp,no t.N,.string (aJ t.S),no t.E])∧(Bk wr f 57 [.bool saq,we Aaq naq caq,.bool sbq,we Abq nbq cbq,.bool sdq,we Adq ndq cdq,we Bq t.L.length dq,no t.N,.string (aJ t.S),no t.E])∧(Lz none 1048579 b1 wr b1 Bp t.L.length dp t.L)∧(b1≤wr.heap.size)∧(Lz none 1048579 b2 wr b2 Bq t.L.length dq t.L)∧(b2≤wr.heap.size))
  (fun⟨wr,i⟩=>t.L.length-i)
  (⟨bf,0⟩:a6×Nat) ⟨D,bJ _,(ao.ext E),L,(lzp.ext (e5.t E)),(a8 (a8 hbp e5.size) E.size),(lzq.ext (e5.t E)),(a8 (a8 hbq e5.size) E.size)⟩ J ⟨rfl,rfl,rfl,rfl,AT⟩ ?_
 rintro⟨wr,i⟩ ⟨h,_,b_2,b_3,llp,bu,llq,bh⟩
 refine cR [(2,i5 r 0),(3,i5 f 0),(4,AS),(5,no i)] wr J ⟨rfl,rfl,rfl,rfl,AT⟩ ?_
 have bi:=llp.block
 have bj:=llq.block
 refine aD (aD ?_)
 by_cases cp:i<t.L.length
 ·refine aF (mv 1 J (pf r 6 J (bB J J (bM (fun _=>by kernel_rfl) b_2 J) (pu (v:= no ((t.L.length:Nat):Int)) J (aI J J J true (eD (a:=i) (b:=t.L.length) J J) (a7 (aW J (aY (aO (aD (bO (aD ?_))))))))))))
  obtain⟨X,W,Y,aa,V,ah,ae,ak,ar⟩:=(llp).at (i:=i) (by omega)
  have F:=ar.zr
  have av:ln (t.L.getD i 0)≤1048579:=F.ln_le ak
  obtain⟨Z,U,M,I,H,ab,ai,aj,ba⟩:=(llq).at (i:=i) (by omega)
  have G:=ba.zr
  have aw:ln (t.L.getD i 0)≤1048579:=G.ln_le aj
  refine dG bY 12 [] [Is (i5 r 6),Is (we Bp t.L.length dp),Is (no i),Is (.pointer (some X)),Is (O W Y aa V),Is (i5 f 6),Is (we Bq t.L.length dq),Is (no i),Is (.pointer (some Z)),Is (O U M I H),Is (AI),Is (AS)] [[],[0],[],[1,2],[3],[],[5],[],[6,7],[8],[4,9],[10]] [[],[0],[],[0,1,2],[0,1,2,3],[],[5],[],[5,6,7],[5,6,7,8],[0,1,2,3,4,5,6,7,8,9],[0,1,2,3,4,5,6,7,8,9,10]] rfl
   (aH J J (aE J J ?_) (aH J J (aE J J ?_) (aH J J (aE J J ?_) (aH J J (aE J J ?_) (aH J J (aE J J ?_) (aH J J (aE J J ?_) (aH J J (aE J J ?_) (aH J J (aE J J ?_) (aH J J (aE J J ?_) (aH J J (aE J J ?_) (aH J J (aE J J ?_) (aH J J (aE J J ?_) d9)))))))))))) ?_
  ·exact fun _ _=>aC (pf r 6 J (aG J aL J))
  ·exact fun _ bg=>dk J J (aC (bB J J (bM (fun _=>by kernel_rfl) (b_2.ext bg) J) (aG J aL J)))
  ·exact fun _ _=>aC (mv 1 J (aG J aL J))
  ·exact fun _ _=>dk J J (dk J J (aC (cD J J J mP aA.size i J X ah (aG J aL J))))
  ·exact fun _ nJ=>dk J J (aC (bB J J (ae _ nJ _ _ aA) (aG J aL J)))
  ·exact fun _ _=>aC (pf f 6 J (aG J aL J))
  ·exact fun _ bw=>dk J J (aC (bB J J (bM (fun _=>by kernel_rfl) (b_3.ext bw) J) (aG J aL J)))
  ·exact fun _ _=>aC (mv 1 J (aG J aL J))
  ·exact fun _ _=>dk J J (dk J J (aC (cD J J J mP aA.size i J Z ab (aG J aL J))))
  ·exact fun _ bp=>dk J J (aC (bB J J (ai _ bp _ _ aA) (aG J aL J)))
  ·intro _ ap
   have D:=h.trans ap
   refine dk J J (dk J J (aC (cl (vs:= [O W Y aa V,O U M I H]) D (KR (F.ext ap) (F.le (aK av J)) (G.ext ap) (G.le (aK aw J)) J) J (by kernel_rfl) fun _ _ bm bo aq=>?_)))
   obtain rfl:=bm
   exact aG J bo rfl
  ·exact fun _ _=>dk J J (aC (pu (v:= AS) J (aG J aL J)))
  ·intro bd o
   have D:=h.trans o
   refine dk J J (dk J J (dk J J (dk J J (dk J J (dk J J (dk J J (dk J J (dk J J (dk J J (dk J J (dk J J (aC (aX ?_)))))))))))))
   refine dC (aO (aQ J (aY (bQ (aO (aF (mv 1 J (aR J J J ((i+1:Nat):Int) (cA (a:=i) (b:=1) J J) (mv 1 J (aX (cM (⟨bd,i+1⟩:a6×Nat) ⟨D,(by omega),(b_2.ext o),(b_3.ext o),(llp.ext o),(a8 bu o.size),(llq.ext o),(a8 bh o.size)⟩ (show t.L.length-(i+1)<t.L.length-i by omega) J ⟨rfl,rfl,rfl,rfl,AT⟩)))))))))))
 ·refine aF (mv 1 J (pf r 6 J (bB J J (bM (fun _=>by kernel_rfl) b_2 J) (pu (v:= no ((t.L.length:Nat):Int)) J (aI J J J false (eE (a:=i) (b:=t.L.length) J J) (a7 (aQ J (d4 (cU (cY (cZ (aO (aD ?_)))))))))))))
  refine aF (pf r 0 J (lo bC b_2 [.bool sap,we Aap nap cap,.bool sbp,we Abp nbp cbp] J J J (pf f 0 J (lo bC b_3 [.bool saq,we Aaq naq caq,.bool sbq,we Abq nbq cbq] J J J (cl (vs:= [a9 sap Aap nap cap sbp Abp nbp cbp,a9 saq Aaq naq caq sbq Abq nbq cbq]) h (X4 (zap.ext h) (zap.le (aK lF J)) (zbp.ext h) (zbp.le (aK lG J)) (zaq.ext h) (zaq.le (aK lF J)) (zbq.ext h) (zbq.le (aK lG J)) J J) J (by kernel_rfl) fun _ _ az e D=>?_)))))
  obtain rfl:=az
  refine mv 1 J (pf r 4 J (lo aA (b_2.ext e) (a5 sdp Adp ndp cdp) J J J (pf f 4 J (lo aA (b_3.ext e) (a5 sdq Adq ndq cdq) J J J (cl (vs:= [O sdp Adp ndp cdp,O sdq Adq ndq cdq]) D (KR (zdp.ext (h.trans e)) (zdp.le (aK lX J)) (zdq.ext (h.trans e)) (zdq.le (aK lX J)) J) J (by kernel_rfl) fun _ _ au q aq=>?_)))))
  obtain rfl:=au
  refine pu (v:= AI) J (mv 1 J (pf r 7 J (bB J J (bM (fun _=>by kernel_rfl) (b_2.ext (e.t q)) J) (pf f 7 J (bB J J (bM (fun _=>by kernel_rfl) (b_3.ext (e.t q)) J) (aI J J J true (eP J) (pu (v:= AI) J (mv 1 J (pf r 8 J (bB J J (bM (fun _=>by kernel_rfl) (b_2.ext (e.t q)) J) (pf f 8 J (bB J J (bM (fun _=>by kernel_rfl) (b_3.ext (e.t q)) J) (mH (a:=t.S) (b:=t.S) J J J lt true (xE (J)) ?_ (hb:=lt))))))))))))))
  refine pu (v:= AI) J (mv 1 J (pf r 9 J (bB J J (bM (fun _=>by kernel_rfl) (b_2.ext (e.t q)) J) (pf f 9 J (bB J J (bM (fun _=>by kernel_rfl) (b_3.ext (e.t q)) J) (aI J J J true (eP J) (pu (v:= AI) J (mv 1 J (a7 (aV (aU [AI] J ⟨rfl,AT⟩ ?_)))))))))))
  exact⟨_,rfl,rfl,aq⟩
theorem X3 (hb1:b1≤w.heap.size)(hb2:b2≤w.heap.size){u v:aM}(hu:AnsR8 b1 t u w)(hv:AnsR8 b2 t v w):aP aN 25 #[u,v] w (Gv w (Is (AI))):=by
 obtain⟨s,A,n,c,s',A',n',c',s2,_,_,_,B,d,rfl,h1,h2,F,E,I,H,G,q,o⟩:=hu
 obtain⟨r,C,m,e,r',C',m',e',_,_,_,_,D,f,rfl,k1,k2,p,h,_,_,_,_,_⟩:=hv
 exact X2 h1 h2 F E hb1 k1 k2 p h hb2 I H G q o
theorem X5 {nb:Nat}{nd:Nat}{sg:Bool}(hx:Zi w sa Aa na ca x)(la:na≤1048576)(hy:Zi w sb Ab nb cb y)(lb:nb≤1048576)(hu:Zi w sd Ad nd cd u)(ld:nd≤1048576)(hv:Zi w se Ae ne ce v)(le:ne≤1048576)(hp:Zi w sf Af nf cf p)(lf:nf≤1048576)(hq:Zi w sg Ag ng cg q)(lg:ng≤1048576)(hl:Zl w C n c zs ms)(hn:n≤1048576)(hmb:∀i,ms.getD i 0≤1048576)(hnd:zT zs):aP aN 22 #[.agg #[no k,.bool sa,we Aa na ca,.bool sb,we Ab nb cb,.bool sd,we Ad nd cd,.bool se,we Ae ne ce,.bool sf,we Af nf cf,.bool sg,we Ag ng cg,.string (aJ bs),we C n c]] w (Gv w (fun v' w'=>∃C2,MU w.heap.size k x y u v p q bs (we C2 n n) v' w'∧Lz (some w) 1048576 w.heap.size w' w.heap.size C2 n n zs)):=by
 have Lx:ln x≤1048576:=a8 hx.ln la
 have Ly:ln y≤1048576:=a8 hy.ln lb
 have Lu:ln u≤1048576:=a8 hu.ln ld
 have Lv:ln v≤1048576:=a8 hv.ln le
 have Lp:ln p≤1048576:=a8 hp.ln lf
 have Lq:ln q≤1048576:=a8 hq.ln lg
 refine bN Tryz.func22 J (n:=55) J (bq J) (args:= [.agg #[no k,.bool sa,we Aa na ca,.bool sb,we Ab nb cb,.bool sd,we Ad nd cd,.bool se,we Ae ne ce,.bool sf,we Af nf cf,.bool sg,we Ag ng cg,.string (aJ bs),we C n c]]) (bG [(0,.agg #[no k,.bool sa,we Aa na ca,.bool sb,we Ab nb cb,.bool sd,we Ad nd cd,.bool se,we Ae ne ce,.bool sf,we Af nf cf,.bool sg,we Ag ng cg,.string (aJ bs),we C n c])] ⟨rfl,AT⟩ (sr (bx [no k,.bool sa,we Aa na ca,.bool sb,we Ab nb cb,.bool sd,we Ad nd cd,.bool se,we Ae ne ce,.bool sf,we Af nf cf,.bool sg,we Ag ng cg,.string (aJ bs),we C n c] (Ext.refl w) J J J fun o _ dw _ _ D=>(bL [I0,F0,S0,F0,S0,F0,S0,F0,S0,F0,S0,F0,S0,.string ⟨#[]⟩,S0] D dw.lt (fun _=>by kernel_rfl) J fun g6 _ iv kw _ e8 f=>(a7 (sr (pf o 14 J (bB J J (bM (fun _=>by kernel_rfl) (dw.ext e8) J) (pu (v:= no n) J (O6 (k:=n) (some w) 1048576 w.heap.size J J J (by omega) (by decide) fun h jc ci dh en=>?_))))))))))
 have mr:o<h:=by rw [←ci];exact (dw.ext e8).lt
 have mt:g6<h:=by rw [←ci];exact iv.lt
 have dx:h≤jc.heap.size:=by have:=(dh.block _ J).2;exact Nat.le_of_lt this
 have dy:w.heap.size≤h:=by rw [←ci];exact f.size
 clear ci
 have F:=f.trans en
 have mf:=dh.block
 have mp:∀p:aB,((some ⟨h,0,none⟩):Option aB)=some p→p.block≠o:=fun p hp=>by cases hp;show h≠o;omega
 have mn:∀p:aB,((some ⟨h,0,none⟩):Option aB)=some p→p.block≠g6:=fun p hp=>by cases hp;show h≠g6;omega
 refine mv 1 J (a7 (aD (sr (mv 1 J (a7 (bO ?_))))))
 refine d8 (T:=a6×Nat)
  (fun⟨wr,j⟩=> [(1,i5 o 0),(2,i5 g6 0),(3,we (some ⟨h,0,none⟩) n n),(4,no j)])
  (fun⟨wr,j⟩=>wr)
  (fun⟨wr,j⟩=>(Ext w wr)∧(j≤n)∧(Lz (some w) 1048576 w.heap.size wr h (some ⟨h,0,none⟩) n n (oC zs n j))∧(h≤wr.heap.size)∧(Bk wr o 54 [no k,.bool sa,we Aa na ca,.bool sb,we Ab nb cb,.bool sd,we Ad nd cd,.bool se,we Ae ne ce,.bool sf,we Af nf cf,.bool sg,we Ag ng cg,.string (aJ bs),we C n c])∧(Bk wr g6 54 [I0,F0,S0,F0,S0,F0,S0,F0,S0,F0,S0,F0,S0,.string ⟨#[]⟩,S0]))
  (fun⟨wr,j⟩=>n-j)
  (⟨jc,0⟩:a6×Nat) ⟨F,bJ _,(by have h9:=dh;rw [OP zs n] at h9;exact h9),dx,(dw.ext (e8.t en)),(iv.ext en)⟩ J ⟨rfl,rfl,rfl,rfl,AT⟩ ?_
 rintro⟨wr,j⟩ ⟨D,_,du,jr,b_1,b_2⟩
 refine cR [(1,i5 o 0),(2,i5 g6 0),(3,we (some ⟨h,0,none⟩) n n),(4,no j)] wr J ⟨rfl,rfl,rfl,rfl,AT⟩ ?_
 have ge:=du.block
 have kz:∀p:aB,((some ⟨h,0,none⟩):Option aB)=some p→p.block≠o:=fun p hp=>by cases hp;show h≠o;omega
 have eg:∀p:aB,((some ⟨h,0,none⟩):Option aB)=some p→p.block≠g6:=fun p hp=>by cases hp;show h≠g6;omega
 refine aD (aD ?_)
 by_cases mb:j<n
 ·refine aF (mv 1 J (pf o 14 J (bB J J (bM (fun _=>by kernel_rfl) b_1 J) (pu (v:= no n) J (aI J J J true (eD (a:=j) (b:=n) J J) (a7 (aW J (aY (aO (aD (bO (aF (mv 1 J ?_)))))))))))))
  refine mv 1 J (pf o 14 J (bB J J (bM (fun _=>by kernel_rfl) b_1 J) (mv 1 J ?_)))
  obtain⟨jq,el,iz,jo,fi,io,lp⟩:=hl.at (i:=j) (by omega)
  refine cD J J J mP aA.size j J jq fi (bB J J (io _ D _ _ aA) (cl (vs:= [.agg #[.bool el,we iz (ms.getD j 0) jo]]) D (rQ D.size (lp.ext D) (a8 (hmb j) (by decide))) J (by kernel_rfl) fun _ _ ml cp f=>?_))
  obtain⟨ir,jt,rfl,kc⟩:=ml
  obtain⟨ks,_,_,_,_,dr,_,gc,je⟩:=((du.ext cp)).at (i:=j) (by omega)
  have mq:ln ((oC zs n j).getD j 0)≤1048576:=a8 (je.zi f).ln gc
  refine cD J J J mP aA.size j J ks dr ?_
  have em:=(du.ext cp)
  obtain⟨_,_⟩:=em.own
  refine NY (e:=⟨el,ir,(ms.getD j 0),jt⟩) (z:=zs.getD j 0) J J J dr (by omega) em (Or.inr ⟨_,rfl,Or.inr kc⟩) (a8 (hmb j) (by decide)) fun jd ju cj=>?_
  have F:=cj.ext f (fun p hp=>by have:=ge p hp;omega)
  have cu:h≤jd.heap.size:=a8 (a8 jr cp.size) cj.size
  refine aX (bQ (aO (aF (mv 1 J (aR J J J ((j+1:Nat):Int) (cA (a:=j) (b:=1) J J) (mv 1 J (aX ?_)))))))
  have da:=ju
  rw [OQ hl.len mb] at da
  refine cM (⟨jd,j+1⟩:a6×Nat) ⟨F,(by omega),da,cu,((b_1.ext cp).updO cj kz),((b_2.ext cp).updO cj eg)⟩ (show n-(j+1)<n-j by omega) J ⟨rfl,rfl,rfl,rfl,AT⟩
 ·refine aF (mv 1 J (pf o 14 J (bB J J (bM (fun _=>by kernel_rfl) b_1 J) (pu (v:= no n) J (aI J J J false (eE (a:=j) (b:=n) J J) (a7 (aQ J (d4 (cU (cY (cZ (aO (aD ?_)))))))))))))
  refine dG bY 30 [] [Is (i5 o 0),Is (no k),Is (i5 o 1),Is (i5 o 1),Is (O sa Aa na ca),ZOR w.heap.size sa na x,Is (i5 o 1),Is (i5 o 3),Is (O sb Ab nb cb),ZOR w.heap.size sb nb y,fun v' w'=>∃c1 c2 d1 d2,v'= .agg #[c1,c2,d1,d2]∧(ZOR w.heap.size sa na x) (.agg #[c1,c2]) w'∧(ZOR w.heap.size sb nb y) (.agg #[d1,d2]) w',Is (i5 o 5),Is (i5 o 5),Is (O sd Ad nd cd),ZOR w.heap.size sd nd u,Is (i5 o 5),Is (i5 o 7),Is (O se Ae ne ce),ZOR w.heap.size se ne v,fun v' w'=>∃c1 c2 d1 d2,v'= .agg #[c1,c2,d1,d2]∧(ZOR w.heap.size sd nd u) (.agg #[c1,c2]) w'∧(ZOR w.heap.size se ne v) (.agg #[d1,d2]) w',Is (i5 o 9),Is (O sf Af nf cf),ZOR w.heap.size sf nf p,Is (i5 o 11),Is (O sg Ag ng cg),ZOR w.heap.size sg ng q,Is (i5 o 13),Is (.string (aJ bs)),Is (we (some ⟨h,0,none⟩) n n),MU w.heap.size k x y u v p q bs (we (some ⟨h,0,none⟩) n n)] [[],[0],[],[2],[3],[4],[],[6],[7],[8],[5,9],[],[11],[12],[13],[],[15],[16],[17],[14,18],[],[20],[21],[],[23],[24],[],[26],[],[1,10,19,22,25,27,28]] [[],[0],[],[2],[2,3],[2,3,4],[],[6],[6,7],[2,3,4,5,6,7,8],[2,3,4,5,6,7,8,9],[],[11],[11,12],[2,3,4,5,6,7,8,9,11,12,13],[],[15],[15,16],[2,3,4,5,6,7,8,9,11,12,13,14,15,16,17],[2,3,4,5,6,7,8,9,11,12,13,14,15,16,17,18],[],[20],[2,3,4,5,6,7,8,9,11,12,13,14,15,16,17,18,20,21],[],[23],[2,3,4,5,6,7,8,9,11,12,13,14,15,16,17,18,20,21,22,23,24],[],[26],[],[0,1,2,3,4,5,6,7,8,9,10,11,12,13,14,15,16,17,18,19,20,21,22,23,24,25,26,27,28],[0,1,2,3,4,5,6,7,8,9,10,11,12,13,14,15,16,17,18,19,20,21,22,23,24,25,26,27,28,29]] rfl
   (aH J J (aE J J ?_) (aH J J (aE J J ?_) (aH J J (aE J J ?_) (aH J J (aE J J ?_) (aH J J (aE J J ?_) (aH J J (aE J J ?_) (aH J J (aE J J ?_) (aH J J (aE J J ?_) (aH J J (aE J J ?_) (aH J J (aE J J ?_) (aH J J (aE J J ?_) (aH J J (aE J J ?_) (aH J J (aE J J ?_) (aH J J (aE J J ?_) (aH J J (aE J J ?_) (aH J J (aE J J ?_) (aH J J (aE J J ?_) (aH J J (aE J J ?_) (aH J J (aE J J ?_) (aH J J (aE J J ?_) (aH J J (aE J J ?_) (aH J J (aE J J ?_) (aH J J (aE J J ?_) (aH J J (aE J J ?_) (aH J J (aE J J ?_) (aH J J (aE J J ?_) (aH J J (aE J J ?_) (aH J J (aE J J ?_) (aH J J (aE J J ?_) (aH J J (aE J J ?_) d9)))))))))))))))))))))))))))))) ?_
  ·exact fun _ _=>aC (pf o 0 J (aG J aL J))
  ·exact fun _ me=>dk J J (aC (bB J J (bM (fun _=>by kernel_rfl) (b_1.ext me) J) (aG J aL J)))
  ·exact fun _ _=>aC (pf o 1 J (aG J aL J))
  ·exact fun _ _=>dk J J (aC (pf o 1 J (aG J aL J)))
  ·exact fun _ mi=>dk J J (aC (lo aA (b_1.ext mi) (a5 sa Aa na ca) J J J (aG J aL J)))
  ·intro _ mg
   have f:=D.trans mg
   refine dk J J (aC (cl (vs:= [O sa Aa na ca]) f (rQ f.size (hx.ext f) (aK la J)) J (by kernel_rfl) fun _ _ mc mh F=>?_))
   obtain⟨_,_,rfl,lj⟩:=mc
   exact aG J mh ⟨_,_,rfl,lj⟩
  ·exact fun _ _=>aC (pf o 1 J (aG J aL J))
  ·exact fun _ _=>dk J J (aC (pf o 3 J (aG J aL J)))
  ·exact fun _ mj=>dk J J (aC (lo aA (b_1.ext mj) (a5 sb Ab nb cb) J J J (aG J aL J)))
  ·intro _ ma
   have f:=D.trans ma
   refine dk J J (aC (cl (vs:= [O sb Ab nb cb]) f (rQ f.size (hy.ext f) (aK lb J)) J (by kernel_rfl) fun _ _ jg iw F=>?_))
   obtain⟨_,_,rfl,fz⟩:=jg
   exact aG J iw ⟨_,_,rfl,fz⟩
  ·intro _ _
   refine aT J J fun _ _ kd _ iu=>?_
   obtain⟨ey,fy,rfl,bo⟩:=kd
   have bo:=bo.ext iu
   refine aT J J fun _ _ kj _ kf=>?_
   obtain⟨il,gy,rfl,ai⟩:=kj
   have ai:=ai.ext kf
   refine aC (pu (v:= a9 sa ey na fy sb il nb gy) J ?_)
   exact aG J aL ⟨_,_,_,_,rfl,⟨_,_,rfl,bo⟩,⟨_,_,rfl,ai⟩⟩
  ·exact fun _ _=>aC (pf o 5 J (aG J aL J))
  ·exact fun _ _=>dk J J (aC (pf o 5 J (aG J aL J)))
  ·exact fun _ kq=>dk J J (aC (lo aA (b_1.ext kq) (a5 sd Ad nd cd) J J J (aG J aL J)))
  ·intro _ lk
   have f:=D.trans lk
   refine dk J J (aC (cl (vs:= [O sd Ad nd cd]) f (rQ f.size (hu.ext f) (aK ld J)) J (by kernel_rfl) fun _ _ jx kb F=>?_))
   obtain⟨_,_,rfl,fo⟩:=jx
   exact aG J kb ⟨_,_,rfl,fo⟩
  ·exact fun _ _=>aC (pf o 5 J (aG J aL J))
  ·exact fun _ _=>dk J J (aC (pf o 7 J (aG J aL J)))
  ·exact fun _ jn=>dk J J (aC (lo aA (b_1.ext jn) (a5 se Ae ne ce) J J J (aG J aL J)))
  ·intro _ kr
   have f:=D.trans kr
   refine dk J J (aC (cl (vs:= [O se Ae ne ce]) f (rQ f.size (hv.ext f) (aK le J)) J (by kernel_rfl) fun _ _ kn ka F=>?_))
   obtain⟨_,_,rfl,ic⟩:=kn
   exact aG J ka ⟨_,_,rfl,ic⟩
  ·intro _ _
   refine aT J J fun _ _ jf _ kx=>?_
   obtain⟨ig,fd,rfl,aw⟩:=jf
   have aw:=aw.ext kx
   refine aT J J fun _ _ jv _ kt=>?_
   obtain⟨ik,gg,rfl,V⟩:=jv
   have V:=V.ext kt
   refine aC (pu (v:= a9 sd ig nd fd se ik ne gg) J ?_)
   exact aG J aL ⟨_,_,_,_,rfl,⟨_,_,rfl,aw⟩,⟨_,_,rfl,V⟩⟩
  ·exact fun _ _=>aC (pf o 9 J (aG J aL J))
  ·exact fun _ kk=>dk J J (aC (lo aA (b_1.ext kk) (a5 sf Af nf cf) J J J (aG J aL J)))
  ·intro _ kp
   have f:=D.trans kp
   refine dk J J (aC (cl (vs:= [O sf Af nf cf]) f (rQ f.size (hp.ext f) (aK lf J)) J (by kernel_rfl) fun _ _ jy lu F=>?_))
   obtain⟨_,_,rfl,gi⟩:=jy
   exact aG J lu ⟨_,_,rfl,gi⟩
  ·exact fun _ _=>aC (pf o 11 J (aG J aL J))
  ·exact fun _ kg=>dk J J (aC (lo aA (b_1.ext kg) (a5 sg Ag ng cg) J J J (aG J aL J)))
  ·intro _ ku
   have f:=D.trans ku
   refine dk J J (aC (cl (vs:= [O sg Ag ng cg]) f (rQ f.size (hq.ext f) (aK lg J)) J (by kernel_rfl) fun _ _ ll lv F=>?_))
   obtain⟨_,_,rfl,gn⟩:=ll
   exact aG J lv ⟨_,_,rfl,gn⟩
  ·exact fun _ _=>aC (pf o 13 J (aG J aL J))
  ·exact fun _ lh=>dk J J (aC (bB J J (bM (fun _=>by kernel_rfl) (b_1.ext lh) J) (aG J aL J)))
  ·exact fun _ _=>aC (mv 1 J (aG J aL J))
  ·intro _ _
   refine dk J J (aT J J fun _ _ jz _ ei=>?_)
   obtain⟨_,_,_,_,rfl,⟨ez,fg,ia,ap⟩,fv⟩:=jz
   cases ia
   obtain⟨iq,fe,fm,bg⟩:=fv
   cases fm
   have ap:=ap.ext ei
   have bg:=bg.ext ei
   refine aT J J fun _ _ jb _ dz=>?_
   obtain⟨_,_,_,_,rfl,⟨ie,im,gk,bd⟩,ft⟩:=jb
   cases gk
   obtain⟨ew,gb,ga,aj⟩:=ft
   cases ga
   have bd:=bd.ext dz
   have aj:=aj.ext dz
   refine aT J J fun _ _ ki _ kv=>?_
   obtain⟨fj,go,rfl,bi⟩:=ki
   have bi:=bi.ext kv
   refine aT J J fun _ _ iy _ ix=>?_
   obtain⟨ij,fb,rfl,Z⟩:=iy
   have Z:=Z.ext ix
   refine dk J J (dk J J (aC (pu (v:= .agg #[no k,.bool sa,we ez na fg,.bool sb,we iq nb fe,.bool sd,we ie nd im,.bool se,we ew ne gb,.bool sf,we fj nf go,.bool sg,we ij ng fb,.string (aJ bs),we (some ⟨h,0,none⟩) n n]) J ?_)))
   exact aG J aL ⟨_,_,_,_,_,_,_,_,_,_,_,_,_,_,_,_,_,_,_,_,_,_,_,_,rfl,ap,(aK la J),bg,(aK lb J),bd,(aK ld J),aj,(aK le J),bi,(aK lf J),Z,(aK lg J)⟩
  ·intro _ df
   have f:=D.trans df
   refine dk J J (dk J J (dk J J (dk J J (dk J J (aT J J fun _ _ ja _ ky=>?_)))))
   obtain⟨_,_,rfl,cm⟩:=ja
   have cm:=cm.ext ky
   refine dk J J (dk J J (dk J J (aT J J fun _ _ ko _ ke=>?_)))
   obtain⟨_,_,rfl,ck⟩:=ko
   have ck:=ck.ext ke
   refine aT J J fun _ _ jj _ eh=>?_
   obtain⟨_,_,_,_,rfl,⟨_,_,fw,dt⟩,gj⟩:=jj
   cases fw
   obtain⟨_,_,fq,de⟩:=gj
   cases fq
   have dt:=dt.ext eh
   have de:=de.ext eh
   refine dk J J (dk J J (dk J J (aT J J fun _ _ lw _ jm=>?_)))
   obtain⟨_,_,rfl,dl⟩:=lw
   have dl:=dl.ext jm
   refine dk J J (dk J J (dk J J (aT J J fun _ _ lm _ jk=>?_)))
   obtain⟨_,_,rfl,dm⟩:=lm
   have dm:=dm.ext jk
   refine aT J J fun _ _ jh _ ej=>?_
   obtain⟨_,_,_,_,rfl,⟨_,_,gf,ct⟩,fk⟩:=jh
   cases gf
   obtain⟨_,_,ib,cv⟩:=fk
   cases ib
   have ct:=ct.ext ej
   have cv:=cv.ext ej
   refine dk J J (dk J J (aT J J fun _ _ jw _ jp=>?_))
   obtain⟨_,_,rfl,dg⟩:=jw
   have dg:=dg.ext jp
   refine dk J J (dk J J (aT J J fun _ _ lz _ ji=>?_))
   obtain⟨_,_,rfl,cz⟩:=lz
   have cz:=cz.ext ji
   refine dk J J (dk J J (dk J J (aT J J fun _ _ li _ G=>?_)))
   obtain⟨bm,aa,ao,bh,W,ab,bw,I,aq,ae,ba,Y,ag,am,au,L,U,M,az,ak,av,bu,ar,bp,rfl,bf,fh,ch,gr,bj,gx,ah,fa,X,fp,H,fc⟩:=li
   have bf:=bf.ext G
   have ch:=ch.ext G
   have bj:=bj.ext G
   have ah:=ah.ext G
   have X:=X.ext G
   have H:=H.ext G
   refine aC ?_
   have r:=(b_2.ext df)
   refine so rZ r [no k,.bool bm,we aa ao bh,.bool W,we ab bw I,.bool aq,we ae ba Y,.bool ag,we am au L,.bool U,we M az ak,.bool av,we bu ar bp,.string (aJ bs),we (some ⟨h,0,none⟩) n n] f kw J J J J fun _ fx E F=>(aX (dC (aO (aV (aU [.agg #[no k,.bool bm,we aa ao bh,.bool W,we ab bw I,.bool aq,we ae ba Y,.bool ag,we am au L,.bool U,we M az ak,.bool av,we bu ar bp,.string (aJ bs),we (some ⟨h,0,none⟩) n n]] J ⟨⟨_,rfl,bH rZ fx [no k,.bool bm,we aa ao bh,.bool W,we ab bw I,.bool aq,we ae ba Y,.bool ag,we am au L,.bool U,we M az ak,.bool av,we bu ar bp,.string (aJ bs),we (some ⟨h,0,none⟩) n n] J (bq J) rfl⟩,AT⟩ ?_)))))
   have jl:j=n:=by omega
   have da:=((du.ext df).updT r E eg)
   rw [jl,OR hl.len] at da
   exact⟨_,rfl,⟨_,⟨_,_,_,_,_,_,_,_,_,_,_,_,_,_,_,_,_,_,_,_,_,_,_,_,rfl,(bf.updT r E),(aK fh J),(ch.updT r E),(aK gr J),(bj.updT r E),(aK gx J),(ah.updT r E),(aK fa J),(X.updT r E),(aK fp J),(H.updT r E),(aK fc J)⟩,da.mono (aZ _) (aZ _) dy⟩,F⟩
theorem KQ (h:Op8 w k x y u v p q bs zs n vv):aP aN 22 #[vv] w (Gv w (fun v' w'=>Op8 w' k x y u v p q bs zs n v')):=by
 obtain⟨sa,Aa,na,ca,sb,Ab,nb,cb,sd,Ad,nd,cd,se,Ae,ne,ce,sf,Af,nf,cf,sg,Ag,ng,cg,C,c,ms,rfl,h1,h2,W,h4,V,h6,X,h8,h9,D,G,F,r,o,E,f⟩:=h
 refine (X5 h1 h2 W h4 V h6 X h8 h9 D G F r o E f).mono ?_
 rintro e w' ⟨_,rfl,⟨_,⟨sa,Aa,na,ca,sb,Ab,nb,cb,sd,Ad,nd,cd,se,Ae,ne,ce,sf,Af,nf,cf,sg,Ag,ng,cg,rfl,Y,l0,k1,L,k2,Z,U,M,I,l4,k5,l5⟩,hl⟩,hx⟩
 obtain⟨_,m1,H⟩:=hl.zl hx
 exact⟨_,rfl,⟨_,_,_,_,_,_,_,_,_,_,_,_,_,_,_,_,_,_,_,_,_,_,_,_,_,_,_,rfl,Y.zi,l0,k1.zi,L,k2.zi,Z,U.zi,M,I.zi,l4,k5.zi,l5,m1,o,H,f⟩,hx⟩
theorem Op8.ext {w':a6}(h:Op8 w k x y u v p q bs zs n vv)(e:Ext w w'):Op8 w' k x y u v p q bs zs n vv:=by
 obtain⟨sa,Aa,na,ca,sb,Ab,nb,cb,sd,Ad,nd,cd,se,Ae,ne,ce,sf,Af,nf,cf,sg,Ag,ng,cg,C,c,ms,rfl,h1,h2,M,L,W,V,U,I,H,o,E,D,f,F,r,G⟩:=h
 exact⟨_,_,_,_,_,_,_,_,_,_,_,_,_,_,_,_,_,_,_,_,_,_,_,_,_,_,_,rfl,h1.ext e,h2,M.ext e,L,W.ext e,V,U.ext e,I,H.ext e,o,E.ext e,D,f.ext e,F,r,G⟩
theorem VJ (ho:Al 15 tX w A n)(hn:n≤1048576)(hS:Signs w):aP aN 4 #[we A n cap] w (Gv w (Is (AI))):=by
 refine bN Tryz.func4 J (n:=29) J (bq J) (args:= [we A n cap]) (bG [(0,we A n cap)] ⟨rfl,AT⟩ (sr (mv 1 J (a7 (aD (sr (cl (vs:= []) (Ext.refl w) (X6 _) J (by kernel_rfl) fun _ v1 r3 _ X=>?_)))))))
 obtain rfl:=r3
 refine pu (v:= AS) J (a7 (aQ J (aY (aO (aD (sr (mv 1 J (a7 (bO ?_)))))))))
 refine d8 (T:=a6×Nat)
  (fun⟨wr,i⟩=> [(0,we A n cap),(3,no i)])
  (fun⟨wr,i⟩=>wr)
  (fun⟨wr,i⟩=>(Ext w wr)∧(i≤n))
  (fun⟨wr,i⟩=>n-i)
  (⟨v1,0⟩:a6×Nat) ⟨X,(bJ _)⟩ J ⟨rfl,rfl,AT⟩ ?_
 rintro⟨wr,i⟩ ⟨X,_⟩
 refine cR [(0,we A n cap),(3,no i)] wr J ⟨rfl,rfl,AT⟩ (aD (aD ?_))
 by_cases ki:i<n
 ·refine aF (mv 2 J (pu (v:= no n) J (aI J J J true (eD (a:=i) (b:=n) J J) (a7 (aW J (aY (aO (aD (bO (sr (mv 2 J ?_)))))))))))
  obtain⟨jo,jz,h,r,F,E,G,D,q,e,f,Y,ju,jt,gn,el,aa⟩:=ho.at15 (i:=i) (by omega)
  refine cD J J J Tryz.underlying50 rZ.size i J jo ju (bB J J (jt _ X) (cl (vs:= [jz]) X (KQ (gn.ext X)) J (by kernel_rfl) fun _ v5 r7 _ ir=>?_))
  have en:=r7
  obtain⟨dz,cu,dr,ah,aj,bo,ak,da,dl,ab,Z,am,av,dy,cv,bf,dm,dx,df,ar,bh,ag,ai,ae,C8,dg,_,rfl,_⟩:=r7
  refine iH J (z:= .agg #[I0,F0,S0,F0,S0,F0,S0,F0,S0,F0,S0,F0,S0,.string ⟨#[]⟩,S0]) (vs:= [I0,F0,S0,F0,S0,F0,S0,F0,S0,F0,S0,F0,S0,.string ⟨#[]⟩,S0]) (fun _=>by kernel_rfl) J fun g9 _ nb=>?_
  have gw_g9:v5.heap.size≤g9:=by rw [←nb.at_];exact aZ _
  have gb:=nb.bk
  have iq:w.heap.size≤g9:=by rw [←nb.at_];exact ir.size
  have eh:=nb.ext
  clear nb
  have jm:=ir.trans eh
  refine so rZ gb [no h,.bool dz,we cu dr ah,.bool aj,we bo ak da,.bool dl,we ab Z am,.bool av,we dy cv bf,.bool dm,we dx df ar,.bool bh,we ag ai ae,.string (aJ e),we C8 Y dg] jm iq J J J J fun _ bd ey jn=>(a7 (sr (lo rZ bd [no h,.bool dz,we cu dr ah,.bool aj,we bo ak da,.bool dl,we ab Z am,.bool av,we dy cv bf,.bool dm,we dx df ar,.bool bh,we ag ai ae,.string (aJ e),we C8 Y dg] J J J (cl (vs:= [.agg #[no h,.bool dz,we cu dr ah,.bool aj,we bo ak da,.bool dl,we ab Z am,.bool av,we dy cv bf,.bool dm,we dx df ar,.bool bh,we ag ai ae,.string (aJ e),we C8 Y dg]]) jn (KQ (en.ext (ey.ext eh (a8 aL.size gw_g9)))) J (by kernel_rfl) fun _ _ fm ej jb=>?_))))
  have fc:=fm
  obtain⟨fv,ij,iu,fj,fy,go,iy,gk,ic,iv,gr,gx,fo,ji,ib,fi,iz,gf,ie,ia,ig,jh,fk,jf,ka,fw,_,rfl,_⟩:=fm
  refine cl (vs:= [.agg #[no h,.bool fv,we ij iu fj,.bool fy,we go iy gk,.bool ic,we iv gr gx,.bool fo,we ji ib fi,.bool iz,we gf ie ia,.bool ig,we jh fk jf,.string (aJ e),we ka Y fw]]) jb (WJ jb.size (fc.ext aL) el aa) J (by kernel_rfl) fun _ jy jq fL gj=>?_
  obtain⟨de,au,cm,cp,dt,bu,bi,ct,cz,bm,du,aq,ao,fb,rfl,fp,fh,ix,W,gy,iw,je,jg,fq⟩:=jq
  have jx:=W.block
  refine iH J (z:= .agg #[F0,S0,F0,S0,F0,S0,S0,I0,.string ⟨#[]⟩,I0]) (vs:= [F0,S0,F0,S0,F0,S0,S0,I0,.string ⟨#[]⟩,I0]) (fun _=>by kernel_rfl) J fun eg _ nb=>?_
  have gw_g29:jy.heap.size≤eg:=by rw [←nb.at_];exact aZ _
  have I:=nb.bk
  have fz:w.heap.size≤eg:=by rw [←nb.at_];exact gj.size
  have ke:g9<eg:=by rw [←nb.at_];exact (bd.ext (ej.t fL)).lt
  have em:∀p,ao=some p→p.block≠eg:=fun p hp=>by have:=(W).block p hp;have:=nb.at_;omega
  have M:=nb.ext
  clear nb
  have jv:=gj.trans M
  refine so m7 I [.bool de,we au cm cp,.bool dt,we bu bi ct,.bool cz,we bm du aq,we ao ((d6 h r F E G D q e f).L.length) fb,no ((d6 h r F E G D q e f).N),.string (aJ ((d6 h r F E G D q e f).S)),no ((d6 h r F E G D q e f).E)] jv fz J J J J fun _ ew U fa=>(a7 (sr (lo rZ ((bd.ext (ej.t (fL.t M))).vN U) [no h,.bool dz,we cu dr ah,.bool aj,we bo ak da,.bool dl,we ab Z am,.bool av,we dy cv bf,.bool dm,we dx df ar,.bool bh,we ag ai ae,.string (aJ e),we C8 Y dg] J J J (cl (vs:= [.agg #[no h,.bool dz,we cu dr ah,.bool aj,we bo ak da,.bool dl,we ab Z am,.bool av,we dy cv bf,.bool dm,we dx df ar,.bool bh,we ag ai ae,.string (aJ e),we C8 Y dg]]) fa (XD fa.size (en.ext (U.ext ((((ey.ext eh (a8 aL.size gw_g9)).trans ej).trans fL).trans M) (a8 (((ey.ext eh (a8 aL.size gw_g9)).trans ej).trans fL).size gw_g29))) el aa (hS.ext fa)) J (by kernel_rfl) fun _ jr jj V gc=>?_))))
  obtain⟨az,ef,ba,ck,ch,bg,dw,bj,bp,aw,ci,bw,ei,ez,rfl,fe,fx,ge,ap,gi,jc,fd,jd,im⟩:=jj
  have jw:=ap.block
  refine iH J (z:= .agg #[F0,S0,F0,S0,F0,S0,S0,I0,.string ⟨#[]⟩,I0]) (vs:= [F0,S0,F0,S0,F0,S0,S0,I0,.string ⟨#[]⟩,I0]) (fun _=>by kernel_rfl) J fun dh _ nb=>?_
  have gw_g48:jr.heap.size≤dh:=by rw [←nb.at_];exact aZ _
  have o:=nb.bk
  have ik:w.heap.size≤dh:=by rw [←nb.at_];exact gc.size
  have kg:eg<dh:=by rw [←nb.at_];exact (ew.ext V).lt
  have gg:∀p,ao=some p→p.block≠dh:=fun p hp=>by have:=((((W.ext M).updT I U em).ext V)).block p hp;have:=nb.at_;omega
  have ja:∀p,ei=some p→p.block≠dh:=fun p hp=>by have:=(ap).block p hp;have:=nb.at_;omega
  have H:=nb.ext
  clear nb
  have ft:=gc.trans H
  refine so m7 o [.bool az,we ef ba ck,.bool ch,we bg dw bj,.bool bp,we aw ci bw,we ei ((d6 h r F E G D q e f).L.length) ez,no ((d6 h r F E G D q e f).N),.string (aJ ((d6 h r F E G D q e f).S)),no ((d6 h r F E G D q e f).E)] ft ik J J J J fun _ ga L cj=>(a7 (sr (lo m7 ga [.bool az,we ef ba ck,.bool ch,we bg dw bj,.bool bp,we aw ci bw,we ei ((d6 h r F E G D q e f).L.length) ez,no ((d6 h r F E G D q e f).N),.string (aJ ((d6 h r F E G D q e f).S)),no ((d6 h r F E G D q e f).E)] J J J (lo m7 ((ew.ext (V.t H)).vN L) [.bool de,we au cm cp,.bool dt,we bu bi ct,.bool cz,we bm du aq,we ao ((d6 h r F E G D q e f).L.length) fb,no ((d6 h r F E G D q e f).N),.string (aJ ((d6 h r F E G D q e f).S)),no ((d6 h r F E G D q e f).E)] J J J (cl (vs:= [.agg #[.bool az,we ef ba ck,.bool ch,we bg dw bj,.bool bp,we aw ci bw,we ei ((d6 h r F E G D q e f).L.length) ez,no ((d6 h r F E G D q e f).N),.string (aJ ((d6 h r F E G D q e f).S)),no ((d6 h r F E G D q e f).E)],.agg #[.bool de,we au cm cp,.bool dt,we bu bi ct,.bool cz,we bm du aq,we ao ((d6 h r F E G D q e f).L.length) fb,no ((d6 h r F E G D q e f).N),.string (aJ ((d6 h r F E G D q e f).S)),no ((d6 h r F E G D q e f).E)]]) cj (X3 cj.size cj.size (show AnsR8 w.heap.size (d6 h r F E G D q e f) _ _ from⟨_,_,_,_,_,_,_,_,_,_,_,_,_,_,rfl,((fe.ext H).updT o L),((fx.ext H).updT o L),((ge.ext H).updT o L),((ap.ext H).updT o L ja),gi,jc,fd,jd,im⟩) (show AnsR8 w.heap.size (d6 h r F E G D q e f) _ _ from⟨_,_,_,_,_,_,_,_,_,_,_,_,_,_,rfl,((((fp.ext M).updT I U).ext (V.t H)).updT o L),((((fh.ext M).updT I U).ext (V.t H)).updT o L),((((ix.ext M).updT I U).ext (V.t H)).updT o L),((((W.ext M).updT I U em).ext (V.t H)).updT o L gg),gy,iw,je,jg,fq⟩)) J (by kernel_rfl) fun _ jk jp _ fg=>?_)))))
  obtain rfl:=jp
  refine pu (v:= AS) J (a7 (aQ J (aY (bQ (aO (aF (mv 1 J (aR J J J ((i+1:Nat):Int) (cA (a:=i) (b:=1) J J) (mv 1 J (aX (cM (⟨jk,i+1⟩:a6×Nat) ⟨fg,(by omega)⟩ (show n-(i+1)<n-i by omega) J ⟨rfl,rfl,AT⟩)))))))))))
 ·refine aF (mv 2 J (pu (v:= no n) J (aI J J J false (eE (a:=i) (b:=n) J J) (a7 (aQ J (d4 (cU (cY (cZ (aO (sr (mv 1 J (aX ?_)))))))))))))
  refine aO (aV (aU [AI] J ⟨rfl,AT⟩ ?_))
  exact⟨_,rfl,rfl,X⟩
theorem VK (ho:Al 15 tX w A n)(hn:n≤1048576)(hS:Signs w):aP aN 4 #[we A n cap] w (sC true w):=(VJ ho hn hS).mono fun e w' h=>a0e _ _ h
end Go.Proofs.YtkepckmdjncehaaGreatDoor
