/- Parts Zk3, Zk4, Plc, Zk5, joined. -/
import Derived.Test.YtkepckmdjncehaaGreatDoorJ6

open Go renaming Addr → a8, Calls → aQ, Value → aD, World → a0
open List renaming getD_eq_getElem?_getD → bE, getElem?_eq_getElem → bR, length_append → eN, length_cons → gD, mem_append → mF, mem_cons → mE
open Nat renaming le_refl → aX, le_trans → aE, lt_of_lt_of_le → cS, mul_one → dK, zero_le → bJ
open Or renaming inl → cD, inr → bT
open Go.Proofs.Tryz renaming prog → aH
namespace Go.Proofs.YtkepckmdjncehaaGreatDoor
set_option maxHeartbeats 16000000
set_option maxRecDepth 20000
variable {A Aa Ab Ad B C:Option a8}{M b b' c c1 c2 ca cb cd d g i j m n n1 n2 na nd:Nat}{bs ms ms2 xs:List Nat}{k mm nn x y z:Int}{ls:List Lst}{s sa sb sd:Bool}{t t':AnsT}{us vs:List aD}{v:aD}{w:a0}{ys zs:List Int}
open Go.RowKit
def AnsA (b:Nat)(t:AnsT)(v:aD)(w:a0):Prop:=
 ∃s A n c s' A' n' c',v= .agg #[.bool s,i9 A n c,.bool s',i9 A' n' c',a9 t.V,a9 t.P,a9 t.Q,.string (aM t.S),a9 t.E]∧Zr w b s A n c t.X∧Zr w b s' A' n' c' t.Y∧ln t.X≤1099511620000∧ln t.Y≤1099511620000∧(∀c,c∈t.S→c<256)∧∀p q,A=some p→A'=some q→p.block≠q.block
theorem AnsA.of (h:t'=t)(k:AnsA b t v w):AnsA b t' v w:=h▸k
theorem AnsA.imp (h:b'≤b):∀v w,AnsA b t v w→AnsA b' t v w:=fun _ _ ⟨s,A,n,c,s',A',n',c',h1,h2,f,e⟩=>⟨s,A,n,c,s',A',n',c',h1,h2.mono h,f.mono h,e⟩
theorem C1 {t:Bool}(h:∀g,iZ (J s A n c) g→iZ (J t B m d) g→False):∀p q,A=some p→B=some q→p.block≠q.block:=fun p q o f e=>h p.block (bT ⟨s,p,n,c,by rw [o],rfl⟩) (bT ⟨t,q,m,d,by rw [f],e.symm⟩)
theorem UL {nb:Nat}(hx:Zi w sa Aa na ca x)(la:na≤1048576)(hy:Zi w sb Ab nb cb y)(lb:nb≤1048576)(hz:Zi w sd Ad nd cd z)(ld:nd≤1048576)(hl:Zl w A n1 c1 zs ms)(hmb:∀i,ms.getD i 0≤1048576)(hl2:Zl w C n2 c2 ys ms2)(hmb2:∀i,ms2.getD i 0≤1048576)(hS:Signs w)(hbs:∀b,b∈bs→b<256)(hlen:bs.length≤1048576):aQ aH 74 #[.agg #[a9 k,.bool sa,i9 Aa na ca,.bool sb,i9 Ab nb cb,.bool sd,i9 Ad nd cd,a9 nn,a9 mm,.string (aM bs),i9 A n1 c1,i9 C n2 c2]] w (Gv w (AnsA w.heap.size (cE k x y bs))):=by
 have Lx:ln x≤1048576:=aE hx.ln la
 have Ly:ln y≤1048576:=aE hy.ln lb
 have Lz:ln z≤1048576:=aE hz.ln ld
 have ky:∀i,ln (zs.getD i 0)≤1048576:=jB hl hmb
 have kz:∀i,ln (ys.getD i 0)≤1048576:=jB hl2 hmb2
 refine bL Tryz.func74 G (n:=102) G (bq G) (args:= [.agg #[a9 k,.bool sa,i9 Aa na ca,.bool sb,i9 Ab nb cb,.bool sd,i9 Ad nd cd,a9 nn,a9 mm,.string (aM bs),i9 A n1 c1,i9 C n2 c2]]) (bF [(0,.agg #[a9 k,.bool sa,i9 Aa na ca,.bool sb,i9 Ab nb cb,.bool sd,i9 Ad nd cd,a9 nn,a9 mm,.string (aM bs),i9 A n1 c1,i9 C n2 c2])] ⟨rfl,up⟩ (sr (bx [a9 k,.bool sa,i9 Aa na ca,.bool sb,i9 Ab nb cb,.bool sd,i9 Ad nd cd,a9 nn,a9 mm,.string (aM bs),i9 A n1 c1,i9 C n2 c2] (Ext.refl w) G G G fun g1 _ E _ _ kd=>(cO [F0,S0,F0,S0,I0,I0,I0,.string ⟨#[]⟩,I0] kd E.lt (fun _=>by kernel_rfl) G fun _ v7 az M _ e8 ku=>(a1 (sr (pu (v:= .agg #[F0,S0,F0,S0,I0,I0,I0,.string ⟨#[]⟩,I0]) G (cO [F0,S0,F0,S0,I0,I0,I0,.string ⟨#[]⟩,I0] ku az.lt (fun _=>by kernel_rfl) G fun q _ V p _ f kt=>(so bD V [F0,S0,F0,S0,I0,I0,I0,.string ⟨#[]⟩,I0] kt p G G G G fun _ L e o=>(a1 (a7 (sr (pf g1 0 G ?_)))))))))))))
 refine aL G G (aP (fun _=>by kernel_rfl) ((E.ext (e8.t f)).vN e) G) (a1 (bI (a7 ?_)))
 by_cases D:k=14
 ·refine a6 (aA G G G true (dD D) (mv 1 G (a1 (aY G (a6 (pf g1 1 G (lo aB ((E.ext (e8.t f)).vN e) (O sa Aa na ca) G G G (pf g1 3 G (lo aB ((E.ext (e8.t f)).vN e) (O sb Ab nb cb) G G G ?_)))))))))
  have kc:ln (qT x y)≤1048576:=pC Lx
  have kv:ln (rT x y)≤1048576:=pB Lx
  refine cl (vs:= [J sa Aa na ca,J sb Ab nb cb]) o (AZ o.size (hx.ext o) (aO la G) (hy.ext o) (aO lb G)) G (by kernel_rfl) fun _ _ kq ju r=>?_
  obtain⟨_,_,_,rfl,⟨bd,bh,bo,bv,rfl,kn⟩,⟨cv,dd,cj,ef,rfl,kr⟩,rfl,jo⟩:=kq
  refine mv 1 G (pu (v:= J bd bh bo bv) G (pu (v:= J cv dd cj ef) G (pu (v:= a9 (eZ y)) G (pf q 0 G ?_))))
  have fp:=(L.ext ju)
  refine so aB fp [.bool bd,i9 bh bo bv,F0,S0,I0,I0,I0,.string ⟨#[]⟩,I0] r p G G G G fun _ fd iq I=>(pf q 2 G (so aB fd [.bool bd,i9 bh bo bv,.bool cv,i9 dd cj ef,I0,I0,I0,.string ⟨#[]⟩,I0] I p G G G G fun _ fk ie H=>(pf q 8 G (d6 G G G (fun _=>by kernel_rfl) G fk (bq G) G [.bool bd,i9 bh bo bv,.bool cv,i9 dd cj ef,I0,I0,I0,.string ⟨#[]⟩,a9 (eZ y)] G fun _ jq fw _=>?_))))
  have W:=fw.ext H p
  refine aS (bG (aC (sr (lo bD jq [.bool bd,i9 bh bo bv,.bool cv,i9 dd cj ef,I0,I0,I0,.string ⟨#[]⟩,a9 (eZ y)] G G G ?_))))
  have fq:=((((((az.ext f).vN e).ext ju).vN iq).vN ie).vN fw)
  refine so bD fq [.bool bd,i9 bh bo bv,.bool cv,i9 dd cj ef,I0,I0,I0,.string ⟨#[]⟩,a9 (eZ y)] W M G G G G fun _ jb jt fs=>(a1 (aU (aT [.agg #[.bool bd,i9 bh bo bv,.bool cv,i9 dd cj ef,I0,I0,I0,.string ⟨#[]⟩,a9 (eZ y)]] G ⟨⟨_,rfl,bA bD jb [.bool bd,i9 bh bo bv,.bool cv,i9 dd cj ef,I0,I0,I0,.string ⟨#[]⟩,a9 (eZ y)] G (bq G) rfl⟩,up⟩ ?_)))
  have hs:cE k x y bs=⟨qT x y,rT x y,0,0,0,[],eZ y⟩:=by unfold cE;rw [if_pos D]
  exact⟨_,rfl,AnsA.of hs ⟨_,_,_,_,_,_,_,_,rfl,((((kn.updT fp iq).updT fd ie).updT fk fw).updT fq jt),((((kr.updT fp iq).updT fd ie).updT fk fw).updT fq jt),(aO kc G),(aO kv G),(fun c hc=>absurd hc (by simp)),(C1 jo)⟩,fs⟩
 ·refine a6 (aA G G G false (cB (h:=D)) (mv 1 G (a1 (aN G (a7 ?_)))))
  by_cases F:k=15
  ·refine a6 (aA G G G true (dD F) (mv 1 G (a1 (aY G (a6 (pf g1 1 G (lo aB ((E.ext (e8.t f)).vN e) (O sa Aa na ca) G G G (pf g1 3 G (lo aB ((E.ext (e8.t f)).vN e) (O sb Ab nb cb) G G G ?_)))))))))
   have ki:ln (qF x y)≤1048578:=GK Lx
   have kf:ln (rF x y)≤2097153:=GJ Lx Ly
   refine cl (vs:= [J sa Aa na ca,J sb Ab nb cb]) o (RV o.size (hx.ext o) (aO la G) (hy.ext o) (aO lb G)) G (by kernel_rfl) fun _ _ ks jk r=>?_
   obtain⟨_,_,_,rfl,⟨bm,bu,bf,bz,rfl,kj⟩,⟨dl,dt,dx,dw,rfl,ke⟩,rfl,jh⟩:=ks
   refine mv 1 G (pu (v:= J bm bu bf bz) G (pu (v:= J dl dt dx dw) G (pu (v:= a9 (eZ y)) G (pf q 0 G ?_))))
   have fj:=(L.ext jk)
   refine so aB fj [.bool bm,i9 bu bf bz,F0,S0,I0,I0,I0,.string ⟨#[]⟩,I0] r p G G G G fun _ fa ir I=>(pf q 2 G (so aB fa [.bool bm,i9 bu bf bz,.bool dl,i9 dt dx dw,I0,I0,I0,.string ⟨#[]⟩,I0] I p G G G G fun _ ez iw H=>(pf q 8 G (d6 G G G (fun _=>by kernel_rfl) G ez (bq G) G [.bool bm,i9 bu bf bz,.bool dl,i9 dt dx dw,I0,I0,I0,.string ⟨#[]⟩,a9 (eZ y)] G fun _ jp fx _=>?_))))
   have W:=fx.ext H p
   refine aS (bG (aC (sr (lo bD jp [.bool bm,i9 bu bf bz,.bool dl,i9 dt dx dw,I0,I0,I0,.string ⟨#[]⟩,a9 (eZ y)] G G G ?_))))
   have fi:=((((((az.ext f).vN e).ext jk).vN ir).vN iw).vN fx)
   refine so bD fi [.bool bm,i9 bu bf bz,.bool dl,i9 dt dx dw,I0,I0,I0,.string ⟨#[]⟩,a9 (eZ y)] W M G G G G fun _ jf je fs=>(a1 (aU (aT [.agg #[.bool bm,i9 bu bf bz,.bool dl,i9 dt dx dw,I0,I0,I0,.string ⟨#[]⟩,a9 (eZ y)]] G ⟨⟨_,rfl,bA bD jf [.bool bm,i9 bu bf bz,.bool dl,i9 dt dx dw,I0,I0,I0,.string ⟨#[]⟩,a9 (eZ y)] G (bq G) rfl⟩,up⟩ ?_)))
   have hs:cE k x y bs=⟨qF x y,rF x y,0,0,0,[],eZ y⟩:=by unfold cE;rw [if_neg D,if_pos F]
   exact⟨_,rfl,AnsA.of hs ⟨_,_,_,_,_,_,_,_,rfl,((((kj.updT fj ir).updT fa iw).updT ez fx).updT fi je),((((ke.updT fj ir).updT fa iw).updT ez fx).updT fi je),(aO ki G),(aO kf G),(fun c hc=>absurd hc (by simp)),(C1 jh)⟩,fs⟩
  ·refine a6 (aA G G G false (cB (h:=F)) (mv 1 G (a1 (aN G (a7 ?_)))))
   by_cases U:k=16
   ·refine a6 (aA G G G true (dD U) (mv 1 G (a1 (aY G (a6 (pf g1 1 G (lo aB ((E.ext (e8.t f)).vN e) (O sa Aa na ca) G G G (pf g1 3 G (lo aB ((E.ext (e8.t f)).vN e) (O sb Ab nb cb) G G G ?_)))))))))
    have kk:ln (qE x y)≤1048578:=vU Lx
    have ko:ln (bZ x y)≤1048576:=nU Ly
    refine cl (vs:= [J sa Aa na ca,J sb Ab nb cb]) o (GS o.size (hx.ext o) (aO la G) (hy.ext o) (aO lb G)) G (by kernel_rfl) fun _ _ kp jv r=>?_
    obtain⟨_,_,_,rfl,⟨bt,bg,bw,bi,rfl,kw⟩,⟨co,du,ct,dg,rfl,kx⟩,rfl,jg⟩:=kp
    refine mv 1 G (pu (v:= J bt bg bw bi) G (pu (v:= J co du ct dg) G (pu (v:= a9 (eZ y)) G (pf q 0 G ?_))))
    have ey:=(L.ext jv)
    refine so aB ey [.bool bt,i9 bg bw bi,F0,S0,I0,I0,I0,.string ⟨#[]⟩,I0] r p G G G G fun _ fb iu I=>(pf q 2 G (so aB fb [.bool bt,i9 bg bw bi,.bool co,i9 du ct dg,I0,I0,I0,.string ⟨#[]⟩,I0] I p G G G G fun _ fc ia H=>(pf q 8 G (d6 G G G (fun _=>by kernel_rfl) G fc (bq G) G [.bool bt,i9 bg bw bi,.bool co,i9 du ct dg,I0,I0,I0,.string ⟨#[]⟩,a9 (eZ y)] G fun _ jx en _=>?_))))
    have W:=en.ext H p
    refine aS (bG (aC (sr (lo bD jx [.bool bt,i9 bg bw bi,.bool co,i9 du ct dg,I0,I0,I0,.string ⟨#[]⟩,a9 (eZ y)] G G G ?_))))
    have cu:=((((((az.ext f).vN e).ext jv).vN iu).vN ia).vN en)
    refine so bD cu [.bool bt,i9 bg bw bi,.bool co,i9 du ct dg,I0,I0,I0,.string ⟨#[]⟩,a9 (eZ y)] W M G G G G fun _ il fy fs=>(a1 (aU (aT [.agg #[.bool bt,i9 bg bw bi,.bool co,i9 du ct dg,I0,I0,I0,.string ⟨#[]⟩,a9 (eZ y)]] G ⟨⟨_,rfl,bA bD il [.bool bt,i9 bg bw bi,.bool co,i9 du ct dg,I0,I0,I0,.string ⟨#[]⟩,a9 (eZ y)] G (bq G) rfl⟩,up⟩ ?_)))
    have hs:cE k x y bs=⟨qE x y,bZ x y,0,0,0,[],eZ y⟩:=by unfold cE;rw [if_neg D,if_neg F,if_pos U]
    exact⟨_,rfl,AnsA.of hs ⟨_,_,_,_,_,_,_,_,rfl,((((kw.updT ey iu).updT fb ia).updT fc en).updT cu fy),((((kx.updT ey iu).updT fb ia).updT fc en).updT cu fy),(aO kk G),(aO ko G),(fun c hc=>absurd hc (by simp)),(C1 jg)⟩,fs⟩
   ·refine a6 (aA G G G false (cB (h:=U)) (mv 1 G (a1 (aN G (a7 ?_)))))
    by_cases X:k=17
    ·refine a6 (aA G G G true (dD X) (mv 1 G (a1 (aY G (a6 (pf g1 1 G (lo aB ((E.ext (e8.t f)).vN e) (O sa Aa na ca) G G G (pf g1 3 G (lo aB ((E.ext (e8.t f)).vN e) (O sb Ab nb cb) G G G ?_)))))))))
     have jw:ln (vX x y)≤1048576:=GE Lx
     refine cl (vs:= [J sa Aa na ca,J sb Ab nb cb]) o (RW o.size (hx.ext o) (aO la G) (hy.ext o) (aO lb G)) G (by kernel_rfl) fun _ _ ji ew r=>?_
     obtain⟨_,_,rfl,⟨ab,aj,Y,aa,rfl,jc⟩,rfl⟩:=ji
     refine mv 1 G (pu (v:= J ab aj Y aa) G (pu (v:= a9 (eX x y)) G (pf q 0 G ?_)))
     have ee:=(L.ext ew)
     refine so aB ee [.bool ab,i9 aj Y aa,F0,S0,I0,I0,I0,.string ⟨#[]⟩,I0] r p G G G G fun _ dy fg I=>(pf q 8 G (d6 G G G (fun _=>by kernel_rfl) G dy (bq G) G [.bool ab,i9 aj Y aa,F0,S0,I0,I0,I0,.string ⟨#[]⟩,a9 (eX x y)] G fun _ ib em _=>?_))
     have H:=em.ext I p
     refine aS (bG (aC (sr (lo bD ib [.bool ab,i9 aj Y aa,F0,S0,I0,I0,I0,.string ⟨#[]⟩,a9 (eX x y)] G G G ?_))))
     have df:=(((((az.ext f).vN e).ext ew).vN fg).vN em)
     refine so bD df [.bool ab,i9 aj Y aa,F0,S0,I0,I0,I0,.string ⟨#[]⟩,a9 (eX x y)] H M G G G G fun _ ig gi W=>(a1 (aU (aT [.agg #[.bool ab,i9 aj Y aa,F0,S0,I0,I0,I0,.string ⟨#[]⟩,a9 (eX x y)]] G ⟨⟨_,rfl,bA bD ig [.bool ab,i9 aj Y aa,F0,S0,I0,I0,I0,.string ⟨#[]⟩,a9 (eX x y)] G (bq G) rfl⟩,up⟩ ?_)))
     have hs:cE k x y bs=⟨vX x y,0,0,0,0,[],eX x y⟩:=by unfold cE;rw [if_neg D,if_neg F,if_neg U,if_pos X]
     exact⟨_,rfl,AnsA.of hs ⟨_,_,_,_,_,_,_,_,rfl,(((jc.updT ee fg).updT dy em).updT df gi),(((((((Zr.zero (w:=v7) (base:=w.heap.size)).ext f).updT V e).ext ew).updT ee fg).updT dy em).updT df gi),(aO jw G),(aE (by decide:ln 0≤0) (by decide)),(fun c hc=>absurd hc (by simp)),(fun _ _ _ h=>by cases h)⟩,W⟩
    ·refine a6 (aA G G G false (cB (h:=X)) (mv 1 G (a1 (aN G (a7 ?_)))))
     by_cases aw:k=18
     ·refine a6 (aA G G G true (dD aw) (mv 1 G (a1 (aY G (a6 (pf g1 1 G (lo aB ((E.ext (e8.t f)).vN e) (O sa Aa na ca) G G G (pf g1 3 G (lo aB ((E.ext (e8.t f)).vN e) (O sb Ab nb cb) G G G ?_)))))))))
      have jm:ln (bZ x y)≤1048576:=nU Ly
      refine cl (vs:= [J sa Aa na ca,J sb Ab nb cb]) o (GR o.size (hx.ext o) (aO la G) (hy.ext o) (aO lb G)) G (by kernel_rfl) fun _ _ jj fe r=>?_
      obtain⟨_,_,rfl,⟨aq,ag,au,ai,rfl,jz⟩,rfl⟩:=jj
      refine mv 1 G (pu (v:= J aq ag au ai) G (pu (v:= a9 (eZ y)) G (pf q 0 G ?_)))
      have ch:=(L.ext fe)
      refine so aB ch [.bool aq,i9 ag au ai,F0,S0,I0,I0,I0,.string ⟨#[]⟩,I0] r p G G G G fun _ ck fo I=>(pf q 8 G (d6 G G G (fun _=>by kernel_rfl) G ck (bq G) G [.bool aq,i9 ag au ai,F0,S0,I0,I0,I0,.string ⟨#[]⟩,a9 (eZ y)] G fun _ go ej _=>?_))
      have H:=ej.ext I p
      refine aS (bG (aC (sr (lo bD go [.bool aq,i9 ag au ai,F0,S0,I0,I0,I0,.string ⟨#[]⟩,a9 (eZ y)] G G G ?_))))
      have dm:=(((((az.ext f).vN e).ext fe).vN fo).vN ej)
      refine so bD dm [.bool aq,i9 ag au ai,F0,S0,I0,I0,I0,.string ⟨#[]⟩,a9 (eZ y)] H M G G G G fun _ ix gf W=>(a1 (aU (aT [.agg #[.bool aq,i9 ag au ai,F0,S0,I0,I0,I0,.string ⟨#[]⟩,a9 (eZ y)]] G ⟨⟨_,rfl,bA bD ix [.bool aq,i9 ag au ai,F0,S0,I0,I0,I0,.string ⟨#[]⟩,a9 (eZ y)] G (bq G) rfl⟩,up⟩ ?_)))
      have hs:cE k x y bs=⟨bZ x y,0,0,0,0,[],eZ y⟩:=by unfold cE;rw [if_neg D,if_neg F,if_neg U,if_neg X,if_pos aw]
      exact⟨_,rfl,AnsA.of hs ⟨_,_,_,_,_,_,_,_,rfl,(((jz.updT ch fo).updT ck ej).updT dm gf),(((((((Zr.zero (w:=v7) (base:=w.heap.size)).ext f).updT V e).ext fe).updT ch fo).updT ck ej).updT dm gf),(aO jm G),(aE (by decide:ln 0≤0) (by decide)),(fun c hc=>absurd hc (by simp)),(fun _ _ _ h=>by cases h)⟩,W⟩
     ·refine a6 (aA G G G false (cB (h:=aw)) (mv 1 G (a1 (aN G (a7 ?_)))))
      by_cases ba:k=19
      ·refine a6 (aA G G G true (dD ba) (mv 1 G (a1 (aY G (a6 (pf g1 1 G (lo aB ((E.ext (e8.t f)).vN e) (O sa Aa na ca) G G G (pf g1 3 G (lo aB ((E.ext (e8.t f)).vN e) (O sb Ab nb cb) G G G ?_)))))))))
       have jr:ln (vS x y)≤1048577:=GF Ly
       refine cl (vs:= [J sa Aa na ca,J sb Ab nb cb]) o (RR o.size (hx.ext o) (aO la G) (hy.ext o) (aO lb G)) G (by kernel_rfl) fun _ _ ka fm r=>?_
       obtain⟨_,_,rfl,⟨ar,Z,ak,am,rfl,jd⟩,rfl⟩:=ka
       refine mv 1 G (pu (v:= J ar Z ak am) G (pu (v:= a9 (eZ y)) G (pf q 0 G ?_)))
       have cf:=(L.ext fm)
       refine so aB cf [.bool ar,i9 Z ak am,F0,S0,I0,I0,I0,.string ⟨#[]⟩,I0] r p G G G G fun _ cx fv I=>(pf q 8 G (d6 G G G (fun _=>by kernel_rfl) G cx (bq G) G [.bool ar,i9 Z ak am,F0,S0,I0,I0,I0,.string ⟨#[]⟩,a9 (eZ y)] G fun _ ij ep _=>?_))
       have H:=ep.ext I p
       refine aS (bG (aC (sr (lo bD ij [.bool ar,i9 Z ak am,F0,S0,I0,I0,I0,.string ⟨#[]⟩,a9 (eZ y)] G G G ?_))))
       have dz:=(((((az.ext f).vN e).ext fm).vN fv).vN ep)
       refine so bD dz [.bool ar,i9 Z ak am,F0,S0,I0,I0,I0,.string ⟨#[]⟩,a9 (eZ y)] H M G G G G fun _ iy fz W=>(a1 (aU (aT [.agg #[.bool ar,i9 Z ak am,F0,S0,I0,I0,I0,.string ⟨#[]⟩,a9 (eZ y)]] G ⟨⟨_,rfl,bA bD iy [.bool ar,i9 Z ak am,F0,S0,I0,I0,I0,.string ⟨#[]⟩,a9 (eZ y)] G (bq G) rfl⟩,up⟩ ?_)))
       have hs:cE k x y bs=⟨vS x y,0,0,0,0,[],eZ y⟩:=by unfold cE;rw [if_neg D,if_neg F,if_neg U,if_neg X,if_neg aw,if_pos ba]
       exact⟨_,rfl,AnsA.of hs ⟨_,_,_,_,_,_,_,_,rfl,(((jd.updT cf fv).updT cx ep).updT dz fz),(((((((Zr.zero (w:=v7) (base:=w.heap.size)).ext f).updT V e).ext fm).updT cf fv).updT cx ep).updT dz fz),(aO jr G),(aE (by decide:ln 0≤0) (by decide)),(fun c hc=>absurd hc (by simp)),(fun _ _ _ h=>by cases h)⟩,W⟩
      ·refine a6 (aA G G G false (cB (h:=ba)) (mv 1 G (a1 (aN G (a7 ?_)))))
       by_cases bj:k=20
       ·refine a6 (aA G G G true (dD bj) (mv 1 G (a1 (aY G (a6 (pf g1 1 G (lo aB ((E.ext (e8.t f)).vN e) (O sa Aa na ca) G G G (cl (vs:= [J sa Aa na ca]) o (NZ (hx.ext o) (aO la G) (hS.ext o)) G (by kernel_rfl) fun _ _ kb el r=>?_))))))))
        obtain rfl:=kb
        refine pf q 7 G ?_
        have de:=(L.ext el)
        refine d6 G G G (fun _=>by kernel_rfl) G de (bq G) G [F0,S0,F0,S0,I0,I0,I0,.string (aM (fE x)),I0] G fun _ gy ei _=>?_
        have I:=ei.ext r p
        refine aS (bG (aC (sr (lo bD gy [F0,S0,F0,S0,I0,I0,I0,.string (aM (fE x)),I0] G G G ?_))))
        have da:=((((az.ext f).vN e).ext el).vN ei)
        refine so bD da [F0,S0,F0,S0,I0,I0,I0,.string (aM (fE x)),I0] I M G G G G fun _ ja ge H=>(a1 (aU (aT [.agg #[F0,S0,F0,S0,I0,I0,I0,.string (aM (fE x)),I0]] G ⟨⟨_,rfl,bA bD ja [F0,S0,F0,S0,I0,I0,I0,.string (aM (fE x)),I0] G (bq G) rfl⟩,up⟩ ?_)))
        have hs:cE k x y bs=⟨0,0,0,0,0,fE x,0⟩:=by unfold cE;rw [if_neg D,if_neg F,if_neg U,if_neg X,if_neg aw,if_neg ba,if_pos bj]
        exact⟨_,rfl,AnsA.of hs ⟨_,_,_,_,_,_,_,_,rfl,((((((Zr.zero (w:=v7) (base:=w.heap.size)).ext f).updT V e).ext el).updT de ei).updT da ge),((((((Zr.zero (w:=v7) (base:=w.heap.size)).ext f).updT V e).ext el).updT de ei).updT da ge),(aE (by decide:ln 0≤0) (by decide)),(aE (by decide:ln 0≤0) (by decide)),DC,(fun _ _ _ h=>by cases h)⟩,H⟩
       ·refine a6 (aA G G G false (cB (h:=bj)) (mv 1 G (a1 (aN G (a7 ?_)))))
        by_cases eh:k=21
        ·refine a6 (aA G G G true (dD eh) (mv 1 G (a1 (aY G (a6 (pf g1 9 G (aL G G (aP (fun _=>by kernel_rfl) ((E.ext (e8.t f)).vN e) G) ?_)))))))
         have jl:ln (rV bs)≤1048576:=GI hlen
         refine cl (vs:= [.string (aM bs)]) o (RT o.size hbs hlen) G (by kernel_rfl) fun _ _ jy ft r=>?_
         obtain⟨_,_,rfl,⟨ao,av,ae,ah,rfl,jn⟩,rfl⟩:=jy
         refine mv 1 G (pu (v:= J ao av ae ah) G (pu (v:= a9 (rE bs)) G (pf q 0 G ?_)))
         have dr:=(L.ext ft)
         refine so aB dr [.bool ao,i9 av ae ah,F0,S0,I0,I0,I0,.string ⟨#[]⟩,I0] r p G G G G fun _ ci fh I=>(pf q 8 G (d6 G G G (fun _=>by kernel_rfl) G ci (bq G) G [.bool ao,i9 av ae ah,F0,S0,I0,I0,I0,.string ⟨#[]⟩,a9 (rE bs)] G fun _ io eg _=>?_))
         have H:=eg.ext I p
         refine aS (bG (aC (sr (lo bD io [.bool ao,i9 av ae ah,F0,S0,I0,I0,I0,.string ⟨#[]⟩,a9 (rE bs)] G G G ?_))))
         have ce:=(((((az.ext f).vN e).ext ft).vN fh).vN eg)
         refine so bD ce [.bool ao,i9 av ae ah,F0,S0,I0,I0,I0,.string ⟨#[]⟩,a9 (rE bs)] H M G G G G fun _ ik gj W=>(a1 (aU (aT [.agg #[.bool ao,i9 av ae ah,F0,S0,I0,I0,I0,.string ⟨#[]⟩,a9 (rE bs)]] G ⟨⟨_,rfl,bA bD ik [.bool ao,i9 av ae ah,F0,S0,I0,I0,I0,.string ⟨#[]⟩,a9 (rE bs)] G (bq G) rfl⟩,up⟩ ?_)))
         have hs:cE k x y bs=⟨rV bs,0,0,0,0,[],rE bs⟩:=by unfold cE;rw [if_neg D,if_neg F,if_neg U,if_neg X,if_neg aw,if_neg ba,if_neg bj,if_pos eh]
         exact⟨_,rfl,AnsA.of hs ⟨_,_,_,_,_,_,_,_,rfl,(((jn.updT dr fh).updT ci eg).updT ce gj),(((((((Zr.zero (w:=v7) (base:=w.heap.size)).ext f).updT V e).ext ft).updT dr fh).updT ci eg).updT ce gj),(aO jl G),(aE (by decide:ln 0≤0) (by decide)),(fun c hc=>absurd hc (by simp)),(fun _ _ _ h=>by cases h)⟩,W⟩
        ·refine a6 (aA G G G false (cB (h:=eh)) (mv 1 G (a1 (aN G (aW (bG (aC (sr (lo bD L [F0,S0,F0,S0,I0,I0,I0,.string ⟨#[]⟩,I0] G G G ?_)))))))))
         have dh:=((az.ext f).vN e)
         refine so bD dh [F0,S0,F0,S0,I0,I0,I0,.string ⟨#[]⟩,I0] o M G G G G fun _ iz gk r=>(a1 (aU (aT [.agg #[F0,S0,F0,S0,I0,I0,I0,.string ⟨#[]⟩,I0]] G ⟨⟨_,rfl,bA bD iz [F0,S0,F0,S0,I0,I0,I0,.string ⟨#[]⟩,I0] G (bq G) rfl⟩,up⟩ ?_)))
         have hs:cE k x y bs=⟨0,0,0,0,0,[],0⟩:=by unfold cE;rw [if_neg D,if_neg F,if_neg U,if_neg X,if_neg aw,if_neg ba,if_neg bj,if_neg eh]
         exact⟨_,rfl,AnsA.of hs ⟨_,_,_,_,_,_,_,_,rfl,((((Zr.zero (w:=v7) (base:=w.heap.size)).ext f).updT V e).updT dh gk),((((Zr.zero (w:=v7) (base:=w.heap.size)).ext f).updT V e).updT dh gk),(aE (by decide:ln 0≤0) (by decide)),(aE (by decide:ln 0≤0) (by decide)),(fun c hc=>absurd hc (by simp)),(fun _ _ _ h=>by cases h)⟩,r⟩
theorem UM {nb:Nat}(hS:Signs w)(hx:Zi w sa Aa na ca x)(la:na≤1048576)(hy:Zi w sb Ab nb cb y)(lb:nb≤1048576)(hz:Zi w sd Ad nd cd z)(ld:nd≤1048576)(hl:Zl w A n1 c1 zs ms)(hmb:∀i,ms.getD i 0≤1048576)(hl2:Zl w C n2 c2 ys ms2)(hmb2:∀i,ms2.getD i 0≤1048576)(hbs:∀b,b∈bs→b<256)(hlen:bs.length≤1048576)(hb:b≤w.heap.size):aQ aH 74 #[.agg #[a9 k,.bool sa,i9 Aa na ca,.bool sb,i9 Ab nb cb,.bool sd,i9 Ad nd cd,a9 nn,a9 mm,.string (aM bs),i9 A n1 c1,i9 C n2 c2]] w (Gv w (AnsA b (cE k x y bs))):=(UL hx la hy lb hz ld hl hmb hl2 hmb2 hS hbs hlen).mono (Gv.imp (AnsA.imp hb))
theorem UN {nb:Nat}(hx:Zi w sa Aa na ca x)(la:na≤1048576)(hy:Zi w sb Ab nb cb y)(lb:nb≤1048576)(hz:Zi w sd Ad nd cd z)(ld:nd≤1048576)(hl:Zl w A n1 c1 zs ms)(hmb:∀i,ms.getD i 0≤1048576)(hl2:Zl w C n2 c2 ys ms2)(hmb2:∀i,ms2.getD i 0≤1048576)(hS:Signs w)(hn1:n1≤1048576)(hn2:n2≤1048576)(hbs:∀b,b∈bs→b<256)(hlen:bs.length≤1048576)(hm1: -9223372036854775808≤mm)(hm2:mm≤9223372036854775807):aQ aH 13 #[.agg #[a9 k,.bool sa,i9 Aa na ca,.bool sb,i9 Ab nb cb,.bool sd,i9 Ad nd cd,a9 nn,a9 mm,.string (aM bs),i9 A n1 c1,i9 C n2 c2]] w (Gv w (AnsA w.heap.size (cP k x y z nn mm bs zs ys n1 n2))):=by
 have Lx:ln x≤1048576:=aE hx.ln la
 have Ly:ln y≤1048576:=aE hy.ln lb
 have Lz:ln z≤1048576:=aE hz.ln ld
 have mt:∀i,ln (zs.getD i 0)≤1048576:=jB hl hmb
 have jh:∀i,ln (ys.getD i 0)≤1048576:=jB hl2 hmb2
 refine bL Tryz.func13 G (n:=129) G (bq G) (args:= [.agg #[a9 k,.bool sa,i9 Aa na ca,.bool sb,i9 Ab nb cb,.bool sd,i9 Ad nd cd,a9 nn,a9 mm,.string (aM bs),i9 A n1 c1,i9 C n2 c2]]) (bF [(0,.agg #[a9 k,.bool sa,i9 Aa na ca,.bool sb,i9 Ab nb cb,.bool sd,i9 Ad nd cd,a9 nn,a9 mm,.string (aM bs),i9 A n1 c1,i9 C n2 c2])] ⟨rfl,up⟩ (sr (bx [a9 k,.bool sa,i9 Aa na ca,.bool sb,i9 Ab nb cb,.bool sd,i9 Ad nd cd,a9 nn,a9 mm,.string (aM bs),i9 A n1 c1,i9 C n2 c2] (Ext.refl w) G G G fun U _ p _ _ oq=>(cO [F0,S0,F0,S0,I0,I0,I0,.string ⟨#[]⟩,I0] oq p.lt (fun _=>by kernel_rfl) G fun _ v7 W I _ M oz=>(a1 (sr (pu (v:= .agg #[F0,S0,F0,S0,I0,I0,I0,.string ⟨#[]⟩,I0]) G (cO [F0,S0,F0,S0,I0,I0,I0,.string ⟨#[]⟩,I0] oz W.lt (fun _=>by kernel_rfl) G fun V _ E r _ e po=>(so bD E [F0,S0,F0,S0,I0,I0,I0,.string ⟨#[]⟩,I0] po r G G G G fun _ L f o=>(a1 (a7 (sr (pf U 0 G ?_)))))))))))))
 refine aL G G (aP (fun _=>by kernel_rfl) ((p.ext (M.t e)).vN f) G) (a1 (bI (a7 ?_)))
 by_cases H:14≤k
 ·refine a6 (aA G G G false (cB) (mv 1 G (a1 (aN G (sr (aA G G G false (cB) (mv 1 G (a1 (aN G (sr (aA G G G false (cB) (mv 1 G (aS ?_)))))))))))))
  refine aC (aN G (sr (aA G G G false (cB) (mv 1 G (a1 (aN G (sr (aA G G G false (cB) (mv 1 G (a1 (aN G (sr (aA G G G false (cB) ?_)))))))))))))
  refine mv 1 G (a1 (aN G (sr (aA G G G false (cB) (mv 1 G (a1 (aN G (sr (aA G G G false (cB) (mv 1 G (a1 (aN G (a7 ?_)))))))))))))
  refine a6 (aA G G G false (cB) (mv 1 G (a1 (aN G (sr (aA G G G false (cB) (mv 1 G (a1 (aN G (sr (aA G G G false (cB) (mv 1 G (aS ?_)))))))))))))
  refine aC (aN G (sr (aA G G G false (cB) (mv 1 G (a1 (aN G (sr (aA G G G false (cB) (mv 1 G (a1 (aN G (aW (bG ?_)))))))))))))
  refine aC (a7 (sr (pf U 0 G (aL G G (aP (fun _=>by kernel_rfl) ((p.ext (M.t e)).vN f) G) (aA G G G true (pG H) (a1 (aY G (sr (lo m7 ((p.ext (M.t e)).vN f) [a9 k,.bool sa,i9 Aa na ca,.bool sb,i9 Ab nb cb,.bool sd,i9 Ad nd cd,a9 nn,a9 mm,.string (aM bs),i9 A n1 c1,i9 C n2 c2] G G G (cl (vs:= [.agg #[a9 k,.bool sa,i9 Aa na ca,.bool sb,i9 Ab nb cb,.bool sd,i9 Ad nd cd,a9 nn,a9 mm,.string (aM bs),i9 A n1 c1,i9 C n2 c2]]) o (UM (hS.ext o) (hx.ext o) (aO la G) (hy.ext o) (aO lb G) (hz.ext o) (aO ld G) (hl.ext o) hmb (hl2.ext o) hmb2 hbs hlen o.size) G (by kernel_rfl) fun _ _ ow ph D=>?_))))))))))
  obtain⟨kr,ka,kx,ky,jy,kz,ju,kn,rfl,mx,mh,oi,mb,nj,mu⟩:=ow
  have io:=(((W.ext e).vN f).ext ph)
  refine so bD io [.bool kr,i9 ka kx ky,.bool jy,i9 kz ju kn,a9 ((cE k x y bs).V),a9 ((cE k x y bs).P),a9 ((cE k x y bs).Q),.string (aM (cE k x y bs).S),a9 ((cE k x y bs).E)] D I G G G G fun _ nx mc q=>(a1 (aU (bU (aT [.agg #[.bool kr,i9 ka kx ky,.bool jy,i9 kz ju kn,a9 ((cE k x y bs).V),a9 ((cE k x y bs).P),a9 ((cE k x y bs).Q),.string (aM (cE k x y bs).S),a9 ((cE k x y bs).E)]] G ⟨⟨_,rfl,bA bD nx [.bool kr,i9 ka kx ky,.bool jy,i9 kz ju kn,a9 ((cE k x y bs).V),a9 ((cE k x y bs).P),a9 ((cE k x y bs).Q),.string (aM (cE k x y bs).S),a9 ((cE k x y bs).E)] G (bq G) rfl⟩,up⟩ ?_))))
  have hs:cP k x y z nn mm bs zs ys n1 n2=cE k x y bs:=by unfold cP;rw [if_pos H]
  exact⟨_,rfl,AnsA.of hs ⟨_,_,_,_,_,_,_,_,rfl,(mx.updT io mc),(mh.updT io mc),oi,mb,nj,mu⟩,q⟩
 ·by_cases X:k=1
  ·refine a6 (aA G G G true (dD X) (mv 1 G (a1 (aY G (a6 (pf U 1 G (lo aB ((p.ext (M.t e)).vN f) (O sa Aa na ca) G G G (cl (vs:= [J sa Aa na ca]) o (SY o.size (hx.ext o) (aO la G)) G (by kernel_rfl) fun _ _ pj jg D=>?_))))))))
   obtain⟨ia,ix,il,gj,rfl,pd⟩:=pj
   refine pf V 0 G ?_
   have iw:=(L.ext jg)
   refine so aB iw [.bool ia,i9 ix il gj,F0,S0,I0,I0,I0,.string ⟨#[]⟩,I0] D r G G G G fun _ nw jf q=>(aS (bG (aC (a7 (sr (pf U 0 G (aL G G (aP (fun _=>by kernel_rfl) ((((p.ext (M.t e)).vN f).ext jg).vN jf) G) (aA G G G false (eF) (a1 (aN G (aW (aC (a7 ?_)))))))))))))
   refine a6 (lo bD nw [.bool ia,i9 ix il gj,F0,S0,I0,I0,I0,.string ⟨#[]⟩,I0] G G G ?_)
   have iq:=((((W.ext e).vN f).ext jg).vN jf)
   refine so bD iq [.bool ia,i9 ix il gj,F0,S0,I0,I0,I0,.string ⟨#[]⟩,I0] q I G G G G fun _ mg mz F=>(a1 (aU (aT [.agg #[.bool ia,i9 ix il gj,F0,S0,I0,I0,I0,.string ⟨#[]⟩,I0]] G ⟨⟨_,rfl,bA bD mg [.bool ia,i9 ix il gj,F0,S0,I0,I0,I0,.string ⟨#[]⟩,I0] G (bq G) rfl⟩,up⟩ ?_)))
   have hs:cP k x y z nn mm bs zs ys n1 n2=⟨x,0,0,0,0,[],0⟩:=by unfold cP;rw [if_neg H,if_pos X]
   exact⟨_,rfl,AnsA.of hs ⟨_,_,_,_,_,_,_,_,rfl,((pd.updT iw jf).updT iq mz),((((((Zr.zero (w:=v7) (base:=w.heap.size)).ext e).updT E f).ext jg).updT iw jf).updT iq mz),(aO Lx G),(aE (by decide:ln 0≤0) (by decide)),(fun c hc=>absurd hc (by simp)),(fun _ _ _ h=>by cases h)⟩,F⟩
  ·refine a6 (aA G G G false (cB (h:=X)) (mv 1 G (a1 (aN G (a7 ?_)))))
   by_cases Y:k=2
   ·refine a6 (aA G G G true (dD Y) (mv 1 G (a1 (aY G (a6 (pf U 8 G (aL G G (aP (fun _=>by kernel_rfl) ((p.ext (M.t e)).vN f) G) ?_)))))))
    have ot:ln (mm)≤1:=vW (by omega)
    refine cl (vs:= [a9 mm]) o (tB o.size hm1 hm2) G (by kernel_rfl) fun _ _ ou jd D=>?_
    obtain⟨ig,ie,gk,jc,rfl,pm⟩:=ou
    refine pf V 0 G ?_
    have jb:=(L.ext jd)
    refine so aB jb [.bool ig,i9 ie gk jc,F0,S0,I0,I0,I0,.string ⟨#[]⟩,I0] D r G G G G fun _ nh je q=>(aS (bG (aC (a7 (sr (pf U 0 G (aL G G (aP (fun _=>by kernel_rfl) ((((p.ext (M.t e)).vN f).ext jd).vN je) G) (aA G G G false (eF) (a1 (aN G (aW (aC (a7 ?_)))))))))))))
    refine a6 (lo bD nh [.bool ig,i9 ie gk jc,F0,S0,I0,I0,I0,.string ⟨#[]⟩,I0] G G G ?_)
    have ja:=((((W.ext e).vN f).ext jd).vN je)
    refine so bD ja [.bool ig,i9 ie gk jc,F0,S0,I0,I0,I0,.string ⟨#[]⟩,I0] q I G G G G fun _ ni nl F=>(a1 (aU (aT [.agg #[.bool ig,i9 ie gk jc,F0,S0,I0,I0,I0,.string ⟨#[]⟩,I0]] G ⟨⟨_,rfl,bA bD ni [.bool ig,i9 ie gk jc,F0,S0,I0,I0,I0,.string ⟨#[]⟩,I0] G (bq G) rfl⟩,up⟩ ?_)))
    have hs:cP k x y z nn mm bs zs ys n1 n2=⟨mm,0,0,0,0,[],0⟩:=by unfold cP;rw [if_neg H,if_neg X,if_pos Y]
    exact⟨_,rfl,AnsA.of hs ⟨_,_,_,_,_,_,_,_,rfl,((pm.updT jb je).updT ja nl),((((((Zr.zero (w:=v7) (base:=w.heap.size)).ext e).updT E f).ext jd).updT jb je).updT ja nl),(aO ot G),(aE (by decide:ln 0≤0) (by decide)),(fun c hc=>absurd hc (by simp)),(fun _ _ _ h=>by cases h)⟩,F⟩
   ·refine a6 (aA G G G false (cB (h:=Y)) (mv 1 G (a1 (aN G (a7 ?_)))))
    by_cases Z:k=3
    ·refine a6 (aA G G G true (dD Z) (mv 1 G (a1 (aY G (a6 (pf U 1 G (lo aB ((p.ext (M.t e)).vN f) (O sa Aa na ca) G G G (cl (vs:= [J sa Aa na ca]) o (RS (hx.ext o) (aO la G)) G (by kernel_rfl) fun _ _ pe ik D=>?_))))))))
     obtain⟨_,_,rfl,rfl,rfl⟩:=pe
     refine mv 1 G (pu (v:= a9 (eT x)) G (pu (v:= a9 (fF x)) G (pf V 4 G ?_)))
     have go:=(L.ext ik)
     refine d6 G G G (fun _=>by kernel_rfl) G go (bq G) G [F0,S0,F0,S0,a9 (eT x),I0,I0,.string ⟨#[]⟩,I0] G fun _ ij gy _=>?_
     have q:=gy.ext D r
     refine pf V 8 G (d6 G G G (fun _=>by kernel_rfl) G ij (bq G) G [F0,S0,F0,S0,a9 (eT x),I0,I0,.string ⟨#[]⟩,a9 (fF x)] G fun _ lj iy _=>?_)
     have F:=iy.ext q r
     refine aS (bG (aC (a7 (sr (pf U 0 G (aL G G (aP (fun _=>by kernel_rfl) (((((p.ext (M.t e)).vN f).ext ik).vN gy).vN iy) G) (aA G G G false (eF) (a1 (aN G (aW (aC (sr (lo bD lj [F0,S0,F0,S0,a9 (eT x),I0,I0,.string ⟨#[]⟩,a9 (fF x)] G G G ?_)))))))))))))
     have iu:=(((((W.ext e).vN f).ext ik).vN gy).vN iy)
     refine so bD iu [F0,S0,F0,S0,a9 (eT x),I0,I0,.string ⟨#[]⟩,a9 (fF x)] F I G G G G fun _ my oh ba=>(a1 (aU (aT [.agg #[F0,S0,F0,S0,a9 (eT x),I0,I0,.string ⟨#[]⟩,a9 (fF x)]] G ⟨⟨_,rfl,bA bD my [F0,S0,F0,S0,a9 (eT x),I0,I0,.string ⟨#[]⟩,a9 (fF x)] G (bq G) rfl⟩,up⟩ ?_)))
     have hs:cP k x y z nn mm bs zs ys n1 n2=⟨0,0,eT x,0,0,[],fF x⟩:=by unfold cP;rw [if_neg H,if_neg X,if_neg Y,if_pos Z]
     exact⟨_,rfl,AnsA.of hs ⟨_,_,_,_,_,_,_,_,rfl,(((((((Zr.zero (w:=v7) (base:=w.heap.size)).ext e).updT E f).ext ik).updT go gy).updT ij iy).updT iu oh),(((((((Zr.zero (w:=v7) (base:=w.heap.size)).ext e).updT E f).ext ik).updT go gy).updT ij iy).updT iu oh),(aE (by decide:ln 0≤0) (by decide)),(aE (by decide:ln 0≤0) (by decide)),(fun c hc=>absurd hc (by simp)),(fun _ _ _ h=>by cases h)⟩,ba⟩
    ·refine a6 (aA G G G false (cB (h:=Z)) (mv 1 G (a1 (aN G (a7 ?_)))))
     by_cases aa:k=4
     ·refine a6 (aA G G G true (dD aa) (mv 1 G (a1 (aY G (sr (pf U 1 G (lo aB ((p.ext (M.t e)).vN f) (O sa Aa na ca) G G G (cl (vs:= [J sa Aa na ca]) o (tA (hx.ext o) (aO la G)) G (by kernel_rfl) fun _ _ ov bd D=>?_))))))))
      obtain rfl:=ov
      refine pf V 4 G ?_
      have ib:=(L.ext bd)
      refine d6 G G G (fun _=>by kernel_rfl) G ib (bq G) G [F0,S0,F0,S0,a9 (bH x 0),I0,I0,.string ⟨#[]⟩,I0] G fun _ mf bf _=>?_
      have q:=bf.ext D r
      refine a1 (sr (pf U 1 G (lo aB ((((p.ext (M.t e)).vN f).ext bd).vN bf) (O sa Aa na ca) G G G (pf U 3 G (lo aB ((((p.ext (M.t e)).vN f).ext bd).vN bf) (O sb Ab nb cb) G G G (cl (vs:= [J sa Aa na ca,J sb Ab nb cb]) q (T9 (hx.ext q) (aO la G) (hy.ext q) (aO lb G)) G (by kernel_rfl) fun _ _ pg eh F=>?_))))))
      obtain rfl:=pg
      refine pf V 5 G ?_
      have iz:=(mf.ext eh)
      refine d6 G G G (fun _=>by kernel_rfl) G iz (bq G) G [F0,S0,F0,S0,a9 (bH x 0),a9 (bH x y),I0,.string ⟨#[]⟩,I0] G fun _ lp el _=>?_
      have ba:=el.ext F r
      refine a1 (a6 (pf U 1 G (lo aB ((((((p.ext (M.t e)).vN f).ext bd).vN bf).ext eh).vN el) (O sa Aa na ca) G G G (pf U 3 G (lo aB ((((((p.ext (M.t e)).vN f).ext bd).vN bf).ext eh).vN el) (O sb Ab nb cb) G G G (cl (vs:= [J sa Aa na ca,J sb Ab nb cb]) ba (B4 (hx.ext ba) (aO la G) (hy.ext ba) (aO lb G)) G (by kernel_rfl) fun _ _ oy ir pk=>?_))))))
      obtain rfl:=oy
      refine pf V 6 G ?_
      have ew:=(lp.ext ir)
      refine d6 G G G (fun _=>by kernel_rfl) G ew (bq G) G [F0,S0,F0,S0,a9 (bH x 0),a9 (bH x y),a9 (cX (Int.natAbs x) (Int.natAbs y)),.string ⟨#[]⟩,I0] G fun _ jz dm _=>?_
      have lv:=dm.ext pk r
      refine aS (bG (aC (a7 (sr (pf U 0 G (aL G G (aP (fun _=>by kernel_rfl) ((((((((p.ext (M.t e)).vN f).ext bd).vN bf).ext eh).vN el).ext ir).vN dm) G) (aA G G G false (eF) (a1 (aN G (aW (aC (sr (lo bD jz [F0,S0,F0,S0,a9 (bH x 0),a9 (bH x y),a9 (cX (Int.natAbs x) (Int.natAbs y)),.string ⟨#[]⟩,I0] G G G ?_)))))))))))))
      have fd:=((((((((W.ext e).vN f).ext bd).vN bf).ext eh).vN el).ext ir).vN dm)
      refine so bD fd [F0,S0,F0,S0,a9 (bH x 0),a9 (bH x y),a9 (cX (Int.natAbs x) (Int.natAbs y)),.string ⟨#[]⟩,I0] lv I G G G G fun _ jw jm nu=>(a1 (aU (aT [.agg #[F0,S0,F0,S0,a9 (bH x 0),a9 (bH x y),a9 (cX (Int.natAbs x) (Int.natAbs y)),.string ⟨#[]⟩,I0]] G ⟨⟨_,rfl,bA bD jw [F0,S0,F0,S0,a9 (bH x 0),a9 (bH x y),a9 (cX (Int.natAbs x) (Int.natAbs y)),.string ⟨#[]⟩,I0] G (bq G) rfl⟩,up⟩ ?_)))
      have hs:cP k x y z nn mm bs zs ys n1 n2=⟨0,0,bH x 0,bH x y,cX (Int.natAbs x) (Int.natAbs y),[],0⟩:=by unfold cP;rw [if_neg H,if_neg X,if_neg Y,if_neg Z,if_pos aa]
      exact⟨_,rfl,AnsA.of hs ⟨_,_,_,_,_,_,_,_,rfl,((((((((((Zr.zero (w:=v7) (base:=w.heap.size)).ext e).updT E f).ext bd).updT ib bf).ext eh).updT iz el).ext ir).updT ew dm).updT fd jm),((((((((((Zr.zero (w:=v7) (base:=w.heap.size)).ext e).updT E f).ext bd).updT ib bf).ext eh).updT iz el).ext ir).updT ew dm).updT fd jm),(aE (by decide:ln 0≤0) (by decide)),(aE (by decide:ln 0≤0) (by decide)),(fun c hc=>absurd hc (by simp)),(fun _ _ _ h=>by cases h)⟩,nu⟩
     ·refine a6 (aA G G G false (cB (h:=aa)) (mv 1 G (a1 (aN G (a7 ?_)))))
      by_cases ae:k=5
      ·refine a6 (aA G G G true (dD ae) (mv 1 G (a1 (aY G (a6 (pf U 1 G (lo aB ((p.ext (M.t e)).vN f) (O sa Aa na ca) G G G ?_)))))))
       have nz:ln (-x)≤1048576:=(by rw [sX];exact Lx)
       refine cl (vs:= [J sa Aa na ca]) o (SX o.size (hx.ext o) (aO la G)) G (by kernel_rfl) fun _ _ lh fs D=>?_
       obtain⟨bz,dh,cu,bj,rfl,mn⟩:=lh
       refine pf V 0 G ?_
       have ei:=(L.ext fs)
       refine so aB ei [.bool bz,i9 dh cu bj,F0,S0,I0,I0,I0,.string ⟨#[]⟩,I0] D r G G G G fun _ ks fm q=>(aS (bG (aC (a7 (sr (pf U 0 G (aL G G (aP (fun _=>by kernel_rfl) ((((p.ext (M.t e)).vN f).ext fs).vN fm) G) (aA G G G false (eF) (a1 (aN G (aW (aC (a7 ?_)))))))))))))
       refine a6 (lo bD ks [.bool bz,i9 dh cu bj,F0,S0,I0,I0,I0,.string ⟨#[]⟩,I0] G G G ?_)
       have en:=((((W.ext e).vN f).ext fs).vN fm)
       refine so bD en [.bool bz,i9 dh cu bj,F0,S0,I0,I0,I0,.string ⟨#[]⟩,I0] q I G G G G fun _ kt jt F=>(a1 (aU (aT [.agg #[.bool bz,i9 dh cu bj,F0,S0,I0,I0,I0,.string ⟨#[]⟩,I0]] G ⟨⟨_,rfl,bA bD kt [.bool bz,i9 dh cu bj,F0,S0,I0,I0,I0,.string ⟨#[]⟩,I0] G (bq G) rfl⟩,up⟩ ?_)))
       have hs:cP k x y z nn mm bs zs ys n1 n2=⟨-x,0,0,0,0,[],0⟩:=by unfold cP;rw [if_neg H,if_neg X,if_neg Y,if_neg Z,if_neg aa,if_pos ae]
       exact⟨_,rfl,AnsA.of hs ⟨_,_,_,_,_,_,_,_,rfl,((mn.updT ei fm).updT en jt),((((((Zr.zero (w:=v7) (base:=w.heap.size)).ext e).updT E f).ext fs).updT ei fm).updT en jt),(aO nz G),(aE (by decide:ln 0≤0) (by decide)),(fun c hc=>absurd hc (by simp)),(fun _ _ _ h=>by cases h)⟩,F⟩
      ·refine a6 (aA G G G false (cB (h:=ae)) (mv 1 G (a1 (aN G (a7 ?_)))))
       by_cases am:k=6
       ·refine a6 (aA G G G true (dD am) (mv 1 G (a1 (aY G (a6 (pf U 1 G (lo aB ((p.ext (M.t e)).vN f) (O sa Aa na ca) G G G ?_)))))))
        have om:ln ((Int.natAbs x:Int))≤1048576:=(by rw [kT];exact Lx)
        refine cl (vs:= [J sa Aa na ca]) o (I5 o.size (hx.ext o) (aO la G)) G (by kernel_rfl) fun _ _ ma fp D=>?_
        obtain⟨dr,dt,dd,bv,rfl,ll⟩:=ma
        refine pf V 0 G ?_
        have ey:=(L.ext fp)
        refine so aB ey [.bool dr,i9 dt dd bv,F0,S0,I0,I0,I0,.string ⟨#[]⟩,I0] D r G G G G fun _ ki fw q=>(aS (bG (aC (a7 (sr (pf U 0 G (aL G G (aP (fun _=>by kernel_rfl) ((((p.ext (M.t e)).vN f).ext fp).vN fw) G) (aA G G G false (eF) (a1 (aN G (aW (aC (a7 ?_)))))))))))))
        refine a6 (lo bD ki [.bool dr,i9 dt dd bv,F0,S0,I0,I0,I0,.string ⟨#[]⟩,I0] G G G ?_)
        have dy:=((((W.ext e).vN f).ext fp).vN fw)
        refine so bD dy [.bool dr,i9 dt dd bv,F0,S0,I0,I0,I0,.string ⟨#[]⟩,I0] q I G G G G fun _ kp jl F=>(a1 (aU (aT [.agg #[.bool dr,i9 dt dd bv,F0,S0,I0,I0,I0,.string ⟨#[]⟩,I0]] G ⟨⟨_,rfl,bA bD kp [.bool dr,i9 dt dd bv,F0,S0,I0,I0,I0,.string ⟨#[]⟩,I0] G (bq G) rfl⟩,up⟩ ?_)))
        have hs:cP k x y z nn mm bs zs ys n1 n2=⟨(Int.natAbs x:Int),0,0,0,0,[],0⟩:=by unfold cP;rw [if_neg H,if_neg X,if_neg Y,if_neg Z,if_neg aa,if_neg ae,if_pos am]
        exact⟨_,rfl,AnsA.of hs ⟨_,_,_,_,_,_,_,_,rfl,((ll.updT ey fw).updT dy jl),((((((Zr.zero (w:=v7) (base:=w.heap.size)).ext e).updT E f).ext fp).updT ey fw).updT dy jl),(aO om G),(aE (by decide:ln 0≤0) (by decide)),(fun c hc=>absurd hc (by simp)),(fun _ _ _ h=>by cases h)⟩,F⟩
       ·refine a6 (aA G G G false (cB (h:=am)) (mv 1 G (a1 (aN G (a7 ?_)))))
        by_cases av:k=7
        ·refine a6 (aA G G G true (dD av) (mv 1 G (a1 (aY G (a6 (pf U 1 G (lo aB ((p.ext (M.t e)).vN f) (O sa Aa na ca) G G G (pf U 3 G (lo aB ((p.ext (M.t e)).vN f) (O sb Ab nb cb) G G G ?_)))))))))
         have nf:ln (x+y)≤1048577:=aE (dZ Lx Ly) (by decide)
         refine cl (vs:= [J sa Aa na ca,J sb Ab nb cb]) o (nW o.size (hx.ext o) (aO la G) (hy.ext o) (aO lb G)) G (by kernel_rfl) fun _ _ lu fo D=>?_
         obtain⟨cf,bi,ce,df,rfl,nk⟩:=lu
         refine pf V 0 G ?_
         have fb:=(L.ext fo)
         refine so aB fb [.bool cf,i9 bi ce df,F0,S0,I0,I0,I0,.string ⟨#[]⟩,I0] D r G G G G fun _ ke fx q=>(aS (bG (aC (a7 (sr (pf U 0 G (aL G G (aP (fun _=>by kernel_rfl) ((((p.ext (M.t e)).vN f).ext fo).vN fx) G) (aA G G G false (eF) (a1 (aN G (aW (aC (a7 ?_)))))))))))))
         refine a6 (lo bD ke [.bool cf,i9 bi ce df,F0,S0,I0,I0,I0,.string ⟨#[]⟩,I0] G G G ?_)
         have dz:=((((W.ext e).vN f).ext fo).vN fx)
         refine so bD dz [.bool cf,i9 bi ce df,F0,S0,I0,I0,I0,.string ⟨#[]⟩,I0] q I G G G G fun _ kb jq F=>(a1 (aU (aT [.agg #[.bool cf,i9 bi ce df,F0,S0,I0,I0,I0,.string ⟨#[]⟩,I0]] G ⟨⟨_,rfl,bA bD kb [.bool cf,i9 bi ce df,F0,S0,I0,I0,I0,.string ⟨#[]⟩,I0] G (bq G) rfl⟩,up⟩ ?_)))
         have hs:cP k x y z nn mm bs zs ys n1 n2=⟨x+y,0,0,0,0,[],0⟩:=by unfold cP;rw [if_neg H,if_neg X,if_neg Y,if_neg Z,if_neg aa,if_neg ae,if_neg am,if_pos av]
         exact⟨_,rfl,AnsA.of hs ⟨_,_,_,_,_,_,_,_,rfl,((nk.updT fb fx).updT dz jq),((((((Zr.zero (w:=v7) (base:=w.heap.size)).ext e).updT E f).ext fo).updT fb fx).updT dz jq),(aO nf G),(aE (by decide:ln 0≤0) (by decide)),(fun c hc=>absurd hc (by simp)),(fun _ _ _ h=>by cases h)⟩,F⟩
        ·refine a6 (aA G G G false (cB (h:=av)) (mv 1 G (a1 (aN G (a7 ?_)))))
         by_cases az:k=8
         ·refine a6 (aA G G G true (dD az) (mv 1 G (a1 (aY G (a6 (pf U 1 G (lo aB ((p.ext (M.t e)).vN f) (O sa Aa na ca) G G G (pf U 3 G (lo aB ((p.ext (M.t e)).vN f) (O sb Ab nb cb) G G G ?_)))))))))
          have lk:ln (x-y)≤1048577:=aE (hZ Lx Ly) (by decide)
          refine cl (vs:= [J sa Aa na ca,J sb Ab nb cb]) o (rI o.size (hx.ext o) (aO la G) (hy.ext o) (aO lb G)) G (by kernel_rfl) fun _ _ oa ft D=>?_
          obtain⟨ct,dg,bt,co,rfl,mj⟩:=oa
          refine pf V 0 G ?_
          have ee:=(L.ext ft)
          refine so aB ee [.bool ct,i9 dg bt co,F0,S0,I0,I0,I0,.string ⟨#[]⟩,I0] D r G G G G fun _ ku fk q=>(aS (bG (aC (a7 (sr (pf U 0 G (aL G G (aP (fun _=>by kernel_rfl) ((((p.ext (M.t e)).vN f).ext ft).vN fk) G) (aA G G G false (eF) (a1 (aN G (aW (aC (a7 ?_)))))))))))))
          refine a6 (lo bD ku [.bool ct,i9 dg bt co,F0,S0,I0,I0,I0,.string ⟨#[]⟩,I0] G G G ?_)
          have fg:=((((W.ext e).vN f).ext ft).vN fk)
          refine so bD fg [.bool ct,i9 dg bt co,F0,S0,I0,I0,I0,.string ⟨#[]⟩,I0] q I G G G G fun _ lf jn F=>(a1 (aU (aT [.agg #[.bool ct,i9 dg bt co,F0,S0,I0,I0,I0,.string ⟨#[]⟩,I0]] G ⟨⟨_,rfl,bA bD lf [.bool ct,i9 dg bt co,F0,S0,I0,I0,I0,.string ⟨#[]⟩,I0] G (bq G) rfl⟩,up⟩ ?_)))
          have hs:cP k x y z nn mm bs zs ys n1 n2=⟨x-y,0,0,0,0,[],0⟩:=by unfold cP;rw [if_neg H,if_neg X,if_neg Y,if_neg Z,if_neg aa,if_neg ae,if_neg am,if_neg av,if_pos az]
          exact⟨_,rfl,AnsA.of hs ⟨_,_,_,_,_,_,_,_,rfl,((mj.updT ee fk).updT fg jn),((((((Zr.zero (w:=v7) (base:=w.heap.size)).ext e).updT E f).ext ft).updT ee fk).updT fg jn),(aO lk G),(aE (by decide:ln 0≤0) (by decide)),(fun c hc=>absurd hc (by simp)),(fun _ _ _ h=>by cases h)⟩,F⟩
         ·refine a6 (aA G G G false (cB (h:=az)) (mv 1 G (a1 (aN G (a7 ?_)))))
          by_cases bo:k=9
          ·refine a6 (aA G G G true (dD bo) (mv 1 G (a1 (aY G (a6 (pf U 1 G (lo aB ((p.ext (M.t e)).vN f) (O sa Aa na ca) G G G (pf U 3 G (lo aB ((p.ext (M.t e)).vN f) (O sb Ab nb cb) G G G ?_)))))))))
           have lz:ln (x*y)≤2097152:=aE (lA Lx Ly) (by decide)
           refine cl (vs:= [J sa Aa na ca,J sb Ab nb cb]) o (I4 o.size (hx.ext o) (aO la G) (hy.ext o) (aO lb G)) G (by kernel_rfl) fun _ _ oo fv D=>?_
           obtain⟨bg,cj,ci,bm,rfl,ny⟩:=oo
           refine pf V 0 G ?_
           have dw:=(L.ext fv)
           refine so aB dw [.bool bg,i9 cj ci bm,F0,S0,I0,I0,I0,.string ⟨#[]⟩,I0] D r G G G G fun _ kc gf q=>(aS (bG (aC (a7 (sr (pf U 0 G (aL G G (aP (fun _=>by kernel_rfl) ((((p.ext (M.t e)).vN f).ext fv).vN gf) G) (aA G G G false (eF) (a1 (aN G (aW (aC (a7 ?_)))))))))))))
           refine a6 (lo bD kc [.bool bg,i9 cj ci bm,F0,S0,I0,I0,I0,.string ⟨#[]⟩,I0] G G G ?_)
           have fe:=((((W.ext e).vN f).ext fv).vN gf)
           refine so bD fe [.bool bg,i9 cj ci bm,F0,S0,I0,I0,I0,.string ⟨#[]⟩,I0] q I G G G G fun _ kd ji F=>(a1 (aU (aT [.agg #[.bool bg,i9 cj ci bm,F0,S0,I0,I0,I0,.string ⟨#[]⟩,I0]] G ⟨⟨_,rfl,bA bD kd [.bool bg,i9 cj ci bm,F0,S0,I0,I0,I0,.string ⟨#[]⟩,I0] G (bq G) rfl⟩,up⟩ ?_)))
           have hs:cP k x y z nn mm bs zs ys n1 n2=⟨x*y,0,0,0,0,[],0⟩:=by unfold cP;rw [if_neg H,if_neg X,if_neg Y,if_neg Z,if_neg aa,if_neg ae,if_neg am,if_neg av,if_neg az,if_pos bo]
           exact⟨_,rfl,AnsA.of hs ⟨_,_,_,_,_,_,_,_,rfl,((ny.updT dw gf).updT fe ji),((((((Zr.zero (w:=v7) (base:=w.heap.size)).ext e).updT E f).ext fv).updT dw gf).updT fe ji),(aO lz G),(aE (by decide:ln 0≤0) (by decide)),(fun c hc=>absurd hc (by simp)),(fun _ _ _ h=>by cases h)⟩,F⟩
          ·refine a6 (aA G G G false (cB (h:=bo)) (mv 1 G (a1 (aN G (a7 ?_)))))
           by_cases ah:k=10
           ·refine a6 (aA G G G true (dD ah) (mv 1 G (a1 (aY G (a6 (pf U 1 G (lo aB ((p.ext (M.t e)).vN f) (O sa Aa na ca) G G G (pf U 3 G (lo aB ((p.ext (M.t e)).vN f) (O sb Ab nb cb) G G G (pf U 5 G (lo aB ((p.ext (M.t e)).vN f) (O sd Ad nd cd) G G G ?_)))))))))))
            have lg:ln (x*y+z)≤2097153:=aE (dZ (lA Lx Ly) Lz) (by decide)
            refine cl (vs:= [J sa Aa na ca,J sb Ab nb cb,J sd Ad nd cd]) o (I3 o.size (hx.ext o) (aO la G) (hy.ext o) (aO lb G) (hz.ext o) (aO ld G)) G (by kernel_rfl) fun _ _ lm fy D=>?_
            obtain⟨bw,cg,bh,cv,rfl,md⟩:=lm
            refine pf V 0 G ?_
            have em:=(L.ext fy)
            refine so aB em [.bool bw,i9 cg bh cv,F0,S0,I0,I0,I0,.string ⟨#[]⟩,I0] D r G G G G fun _ ko fi q=>(aS (bG (aC (a7 (sr (pf U 0 G (aL G G (aP (fun _=>by kernel_rfl) ((((p.ext (M.t e)).vN f).ext fy).vN fi) G) (aA G G G false (eF) (a1 (aN G (aW (aC (a7 ?_)))))))))))))
            refine a6 (lo bD ko [.bool bw,i9 cg bh cv,F0,S0,I0,I0,I0,.string ⟨#[]⟩,I0] G G G ?_)
            have fa:=((((W.ext e).vN f).ext fy).vN fi)
            refine so bD fa [.bool bw,i9 cg bh cv,F0,S0,I0,I0,I0,.string ⟨#[]⟩,I0] q I G G G G fun _ kq jp F=>(a1 (aU (aT [.agg #[.bool bw,i9 cg bh cv,F0,S0,I0,I0,I0,.string ⟨#[]⟩,I0]] G ⟨⟨_,rfl,bA bD kq [.bool bw,i9 cg bh cv,F0,S0,I0,I0,I0,.string ⟨#[]⟩,I0] G (bq G) rfl⟩,up⟩ ?_)))
            have hs:cP k x y z nn mm bs zs ys n1 n2=⟨x*y+z,0,0,0,0,[],0⟩:=by unfold cP;rw [if_neg H,if_neg X,if_neg Y,if_neg Z,if_neg aa,if_neg ae,if_neg am,if_neg av,if_neg az,if_neg bo,if_pos ah]
            exact⟨_,rfl,AnsA.of hs ⟨_,_,_,_,_,_,_,_,rfl,((md.updT em fi).updT fa jp),((((((Zr.zero (w:=v7) (base:=w.heap.size)).ext e).updT E f).ext fy).updT em fi).updT fa jp),(aO lg G),(aE (by decide:ln 0≤0) (by decide)),(fun c hc=>absurd hc (by simp)),(fun _ _ _ h=>by cases h)⟩,F⟩
           ·refine a6 (aA G G G false (cB (h:=ah)) (mv 1 G (a1 (aN G (a7 ?_)))))
            by_cases aw:k=11
            ·refine a6 (aA G G G true (dD aw) (mv 1 G (a1 (aY G (a6 (pf U 11 G (aL G G (aP (fun _=>by kernel_rfl) ((p.ext (M.t e)).vN f) G) ?_)))))))
             have nt:ln (gK ys)≤2097152:=(by have h:=vT jh n2;rw [List.take_of_length_le (by rw [hl2.len];exact aX _)] at h;omega)
             refine cl (vs:= [i9 C n2 c2]) o (ST o.size (hl2.ext o) hn2 (fun i=>aE (hmb2 i) (by decide))) G (by kernel_rfl) fun _ _ ml gi D=>?_
             obtain⟨cm,cx,ch,de,rfl,mw⟩:=ml
             refine pf V 0 G ?_
             have ef:=(L.ext gi)
             refine so aB ef [.bool cm,i9 cx ch de,F0,S0,I0,I0,I0,.string ⟨#[]⟩,I0] D r G G G G fun _ kv ge q=>(aS (bG (aC (a7 (sr (pf U 0 G (aL G G (aP (fun _=>by kernel_rfl) ((((p.ext (M.t e)).vN f).ext gi).vN ge) G) (aA G G G false (eF) (a1 (aN G (aW (aC (a7 ?_)))))))))))))
             refine a6 (lo bD kv [.bool cm,i9 cx ch de,F0,S0,I0,I0,I0,.string ⟨#[]⟩,I0] G G G ?_)
             have dx:=((((W.ext e).vN f).ext gi).vN ge)
             refine so bD dx [.bool cm,i9 cx ch de,F0,S0,I0,I0,I0,.string ⟨#[]⟩,I0] q I G G G G fun _ kj jo F=>(a1 (aU (aT [.agg #[.bool cm,i9 cx ch de,F0,S0,I0,I0,I0,.string ⟨#[]⟩,I0]] G ⟨⟨_,rfl,bA bD kj [.bool cm,i9 cx ch de,F0,S0,I0,I0,I0,.string ⟨#[]⟩,I0] G (bq G) rfl⟩,up⟩ ?_)))
             have hs:cP k x y z nn mm bs zs ys n1 n2=⟨gK ys,0,0,0,0,[],0⟩:=by unfold cP;rw [if_neg H,if_neg X,if_neg Y,if_neg Z,if_neg aa,if_neg ae,if_neg am,if_neg av,if_neg az,if_neg bo,if_neg ah,if_pos aw]
             exact⟨_,rfl,AnsA.of hs ⟨_,_,_,_,_,_,_,_,rfl,((mw.updT ef ge).updT dx jo),((((((Zr.zero (w:=v7) (base:=w.heap.size)).ext e).updT E f).ext gi).updT ef ge).updT dx jo),(aO nt G),(aE (by decide:ln 0≤0) (by decide)),(fun c hc=>absurd hc (by simp)),(fun _ _ _ h=>by cases h)⟩,F⟩
            ·refine a6 (aA G G G false (cB (h:=aw)) (mv 1 G (a1 (aN G (a7 ?_)))))
             by_cases dl:k=12
             ·refine a6 (aA G G G true (dD dl) (mv 1 G (a1 (aY G (a6 (pf U 10 G (aL G G (aP (fun _=>by kernel_rfl) ((p.ext (M.t e)).vN f) G) (pf U 11 G (aL G G (aP (fun _=>by kernel_rfl) ((p.ext (M.t e)).vN f) G) ?_)))))))))
              have me:ln (vD zs ys n1 n2)≤3145728:=(by have h:=GH (n:=n1) (m:=n2) mt jh;omega)
              refine cl (vs:= [i9 A n1 c1,i9 C n2 c2]) o (RZ o.size (hl.ext o) hn1 hmb (hl2.ext o) hmb2) G (by kernel_rfl) fun _ _ ne fj D=>?_
              obtain⟨_,_,rfl,⟨ao,au,aq,ar,rfl,mi⟩,rfl⟩:=ne
              refine mv 1 G (pu (v:= J ao au aq ar) G (pu (v:= a9 (eD n1 n2)) G (pf V 0 G ?_)))
              have ej:=(L.ext fj)
              refine so aB ej [.bool ao,i9 au aq ar,F0,S0,I0,I0,I0,.string ⟨#[]⟩,I0] D r G G G G fun _ ep fq q=>(pf V 8 G (d6 G G G (fun _=>by kernel_rfl) G ep (bq G) G [.bool ao,i9 au aq ar,F0,S0,I0,I0,I0,.string ⟨#[]⟩,a9 (eD n1 n2)] G fun _ kk da _=>?_))
              have F:=da.ext q r
              refine aS (bG (aC (a7 (sr (pf U 0 G (aL G G (aP (fun _=>by kernel_rfl) (((((p.ext (M.t e)).vN f).ext fj).vN fq).vN da) G) (aA G G G false (eF) (a1 (aN G (aW (aC (sr (lo bD kk [.bool ao,i9 au aq ar,F0,S0,I0,I0,I0,.string ⟨#[]⟩,a9 (eD n1 n2)] G G G ?_)))))))))))))
              have ez:=(((((W.ext e).vN f).ext fj).vN fq).vN da)
              refine so bD ez [.bool ao,i9 au aq ar,F0,S0,I0,I0,I0,.string ⟨#[]⟩,a9 (eD n1 n2)] F I G G G G fun _ jx jj ba=>(a1 (aU (aT [.agg #[.bool ao,i9 au aq ar,F0,S0,I0,I0,I0,.string ⟨#[]⟩,a9 (eD n1 n2)]] G ⟨⟨_,rfl,bA bD jx [.bool ao,i9 au aq ar,F0,S0,I0,I0,I0,.string ⟨#[]⟩,a9 (eD n1 n2)] G (bq G) rfl⟩,up⟩ ?_)))
              have hs:cP k x y z nn mm bs zs ys n1 n2=⟨vD zs ys n1 n2,0,0,0,0,[],eD n1 n2⟩:=by unfold cP;rw [if_neg H,if_neg X,if_neg Y,if_neg Z,if_neg aa,if_neg ae,if_neg am,if_neg av,if_neg az,if_neg bo,if_neg ah,if_neg aw,if_pos dl]
              exact⟨_,rfl,AnsA.of hs ⟨_,_,_,_,_,_,_,_,rfl,(((mi.updT ej fq).updT ep da).updT ez jj),(((((((Zr.zero (w:=v7) (base:=w.heap.size)).ext e).updT E f).ext fj).updT ej fq).updT ep da).updT ez jj),(aO me G),(aE (by decide:ln 0≤0) (by decide)),(fun c hc=>absurd hc (by simp)),(fun _ _ _ h=>by cases h)⟩,ba⟩
             ·refine a6 (aA G G G false (cB (h:=dl)) (mv 1 G (a1 (aN G (a7 ?_)))))
              by_cases gg:k=13
              ·refine a6 (aA G G G true (dD gg) (mv 1 G (a1 (aY G (a6 (pf U 1 G (lo aB ((p.ext (M.t e)).vN f) (O sa Aa na ca) G G G (pf U 7 G (aL G G (aP (fun _=>by kernel_rfl) ((p.ext (M.t e)).vN f) G) ?_)))))))))
               have mr:ln (vP x nn)≤268435457:=GG Lx
               refine cl (vs:= [J sa Aa na ca,a9 nn]) o (RU o.size (hx.ext o) (aO la G)) G (by kernel_rfl) fun _ _ oe fz D=>?_
               obtain⟨_,_,rfl,⟨ai,ag,ak,aj,rfl,mo⟩,rfl⟩:=oe
               refine mv 1 G (pu (v:= J ai ag ak aj) G (pu (v:= a9 (eP nn)) G (pf V 0 G ?_)))
               have fc:=(L.ext fz)
               refine so aB fc [.bool ai,i9 ag ak aj,F0,S0,I0,I0,I0,.string ⟨#[]⟩,I0] D r G G G G fun _ ea fh q=>(pf V 8 G (d6 G G G (fun _=>by kernel_rfl) G ea (bq G) G [.bool ai,i9 ag ak aj,F0,S0,I0,I0,I0,.string ⟨#[]⟩,a9 (eP nn)] G fun _ kf ck _=>?_))
               have F:=ck.ext q r
               refine aS (bG (aC (a7 (sr (pf U 0 G (aL G G (aP (fun _=>by kernel_rfl) (((((p.ext (M.t e)).vN f).ext fz).vN fh).vN ck) G) (aA G G G false (eF) (a1 (aN G (aW (aC (sr (lo bD kf [.bool ai,i9 ag ak aj,F0,S0,I0,I0,I0,.string ⟨#[]⟩,a9 (eP nn)] G G G ?_)))))))))))))
               have du:=(((((W.ext e).vN f).ext fz).vN fh).vN ck)
               refine so bD du [.bool ai,i9 ag ak aj,F0,S0,I0,I0,I0,.string ⟨#[]⟩,a9 (eP nn)] F I G G G G fun _ kw jk ba=>(a1 (aU (aT [.agg #[.bool ai,i9 ag ak aj,F0,S0,I0,I0,I0,.string ⟨#[]⟩,a9 (eP nn)]] G ⟨⟨_,rfl,bA bD kw [.bool ai,i9 ag ak aj,F0,S0,I0,I0,I0,.string ⟨#[]⟩,a9 (eP nn)] G (bq G) rfl⟩,up⟩ ?_)))
               have hs:cP k x y z nn mm bs zs ys n1 n2=⟨vP x nn,0,0,0,0,[],eP nn⟩:=by unfold cP;rw [if_neg H,if_neg X,if_neg Y,if_neg Z,if_neg aa,if_neg ae,if_neg am,if_neg av,if_neg az,if_neg bo,if_neg ah,if_neg aw,if_neg dl,if_pos gg]
               exact⟨_,rfl,AnsA.of hs ⟨_,_,_,_,_,_,_,_,rfl,(((mo.updT fc fh).updT ea ck).updT du jk),(((((((Zr.zero (w:=v7) (base:=w.heap.size)).ext e).updT E f).ext fz).updT fc fh).updT ea ck).updT du jk),(aO mr G),(aE (by decide:ln 0≤0) (by decide)),(fun c hc=>absurd hc (by simp)),(fun _ _ _ h=>by cases h)⟩,ba⟩
              ·refine a6 (aA G G G false (cB (h:=gg)) (mv 1 G (a1 (aN G (aW (bG (aC (a7 (sr (pf U 0 G (aL G G (aP (fun _=>by kernel_rfl) ((p.ext (M.t e)).vN f) G) (aA G G G false (eF) (aS ?_)))))))))))))
               refine aC (aN G (aW (aC (sr (lo bD L [F0,S0,F0,S0,I0,I0,I0,.string ⟨#[]⟩,I0] G G G ?_)))))
               have eg:=((W.ext e).vN f)
               refine so bD eg [F0,S0,F0,S0,I0,I0,I0,.string ⟨#[]⟩,I0] o I G G G G fun _ jv jr D=>(a1 (aU (aT [.agg #[F0,S0,F0,S0,I0,I0,I0,.string ⟨#[]⟩,I0]] G ⟨⟨_,rfl,bA bD jv [F0,S0,F0,S0,I0,I0,I0,.string ⟨#[]⟩,I0] G (bq G) rfl⟩,up⟩ ?_)))
               have hs:cP k x y z nn mm bs zs ys n1 n2=⟨0,0,0,0,0,[],0⟩:=by unfold cP;rw [if_neg H,if_neg X,if_neg Y,if_neg Z,if_neg aa,if_neg ae,if_neg am,if_neg av,if_neg az,if_neg bo,if_neg ah,if_neg aw,if_neg dl,if_neg gg]
               exact⟨_,rfl,AnsA.of hs ⟨_,_,_,_,_,_,_,_,rfl,((((Zr.zero (w:=v7) (base:=w.heap.size)).ext e).updT E f).updT eg jr),((((Zr.zero (w:=v7) (base:=w.heap.size)).ext e).updT E f).updT eg jr),(aE (by decide:ln 0≤0) (by decide)),(aE (by decide:ln 0≤0) (by decide)),(fun c hc=>absurd hc (by simp)),(fun _ _ _ h=>by cases h)⟩,D⟩
theorem B7 (hb:b≤w.heap.size)(h:Op5 w k x y z nn mm bs zs ys n1 n2 v)(hS:Signs w)(hn1:n1≤1048576)(hn2:n2≤1048576)(hbs:∀b,b∈bs→b<256)(hlen:bs.length≤1048576)(hm1: -9223372036854775808≤mm)(hm2:mm≤9223372036854775807):aQ aH 13 #[v] w (Gv w (AnsA b (cP k x y z nn mm bs zs ys n1 n2))):=by
 obtain⟨sa,Aa,na,ca,sb,Ab,nb,cb,sd,Ad,nd,cd,A,_,ms,C,_,_,rfl,h1,h2,p,D,r,q,o,E,f,e⟩:=h
 exact (UN h1 h2 p D r q o E f e hS hn1 hn2 hbs hlen hm1 hm2).mono (Gv.imp (AnsA.imp hb))
structure Sg (w:a0)(lb:Nat)(P:Nat→Prop)(ls:List Lst):Prop where
 al:Al0 w lb ls
 rg:∀a,a<ls.length→∀p,(ls.getD a Lst.z).A=some p→P p.block
section
variable {w w':a0}{lb:Nat}{P Q:Nat→Prop}{ls l1 l2:List Lst}
theorem Sg.ext (h:Sg w lb P ls)(e:Ext w w'):Sg w' lb P ls:=⟨h.al.ext e,h.rg⟩
theorem Sg.imp (h:Sg w lb P ls)(hi:∀g,P g→Q g):Sg w lb Q ls:=⟨h.al,fun a e p f=>hi _ (h.rg a e p f)⟩
theorem Sg.one (ho:Own w lb 65 1 A n c (xs.map bC))(hr:∀p,A=some p→P p.block):Sg w lb P [⟨A,n,c⟩]:=by
 refine⟨⟨fun a b e hb _=>?_,fun a e=>?_⟩,fun a e=>?_⟩
 ·simp only [List.length_singleton] at e hb;omega
 ·obtain rfl:a=0:=by simpa using e
  exact⟨xs,ho,fun h=>absurd h (Nat.not_lt_zero _),fun _=>rfl⟩
 ·obtain rfl:a=0:=by simpa using e
  exact hr
theorem B3 (l1 l2:List Lst)(a:Nat):(l1++l2).getD a Lst.z=if a<l1.length then l1.getD a Lst.z else l2.getD (a-l1.length) Lst.z:=by
 simp only [bE]
 split
 ·rename_i h;rw [List.getElem?_append_left h]
 ·rename_i h;rw [List.getElem?_append_right (by omega)]
theorem Sg.app (h:Sg w lb P l1)(k:Sg w lb Q l2)(hd:∀g,P g→Q g→False):Sg w lb (fun g=>P g∨Q g) (l1++l2):=by
 have D:(l1++l2).length=l1.length+l2.length:=eN
 refine⟨⟨fun a b E hb r p q f o e=>?_,fun a E=>?_⟩,fun a E p f=>?_⟩
 ·rw [B3] at f o
  by_cases h1:a<l1.length
  ·rw [if_pos h1] at f
   by_cases h2:b<l1.length
   ·rw [if_pos h2] at o;exact h.al.dis a b h1 h2 r p q f o e
   ·rw [if_neg h2] at o
    exact hd p.block (h.rg a h1 p f) (e▸k.rg (b-l1.length) (by omega) q o)
  ·rw [if_neg h1] at f
   by_cases h2:b<l1.length
   ·rw [if_pos h2] at o
    exact hd q.block (h.rg b h2 q o) (e▸k.rg (a-l1.length) (by omega) p f)
   ·rw [if_neg h2] at o;exact k.al.dis _ _ (by omega) (by omega) (by omega) p q f o e
 ·rw [B3]
  by_cases h1:a<l1.length
  ·rw [if_pos h1]
   obtain⟨xs,h2,_⟩:=h.al.own a h1
   exact⟨xs,h2,fun h=>absurd h (Nat.not_lt_zero _),fun _=>rfl⟩
  ·rw [if_neg h1]
   obtain⟨xs,h2,_⟩:=k.al.own (a-l1.length) (by omega)
   exact⟨xs,h2,fun h=>absurd h (Nat.not_lt_zero _),fun _=>rfl⟩
 ·rw [B3] at f
  by_cases h1:a<l1.length
  ·rw [if_pos h1] at f;exact cD (h.rg a h1 p f)
  ·rw [if_neg h1] at f;exact bT (k.rg (a-l1.length) (by omega) p f)
theorem Sg.two {s e:Nat}{ys:List Nat}(ho:Own w lb 65 1 A n c (xs.map bC))(hk:Own w lb 65 1 B m d (ys.map bC))(hap:∀p q,A=some p→B=some q→p.block≠q.block)(hA:∀p,A=some p→s≤p.block∧p.block<e)(hB:∀p,B=some p→s≤p.block∧p.block<e):Sg w lb (fun g=>s≤g∧g<e) [⟨A,n,c⟩,⟨B,m,d⟩]:=by
 have h1:Sg w lb (fun g=>∃p,A=some p∧p.block=g) [⟨A,n,c⟩]:=Sg.one ho (fun p f=>⟨p,f,rfl⟩)
 have h2:Sg w lb (fun g=>∃p,B=some p∧p.block=g) [⟨B,m,d⟩]:=Sg.one hk (fun p f=>⟨p,f,rfl⟩)
 refine (h1.app h2 ?_).imp ?_
 ·rintro g ⟨p,f,rfl⟩ ⟨q,h,e⟩
  exact hap p q f h e.symm
 ·rintro g (⟨p,f,rfl⟩ | ⟨p,f,rfl⟩)
  ·exact hA p f
  ·exact hB p f
def jA (n:Nat)(γ:Nat→Nat)(ω:Nat→List Nat):List Lst:=(List.range n).map fun j=>⟨some ⟨γ j,0,none⟩,(ω j).length,(ω j).length+80⟩
theorem pA (n:Nat)(γ:Nat→Nat)(ω:Nat→List Nat):(jA n γ ω).length=n:=by unfold jA;rw [List.length_map,List.length_range]
theorem sV {γ:Nat→Nat}{ω:Nat→List Nat}(hj:j<n):(jA n γ ω).getD j Lst.z=⟨some ⟨γ j,0,none⟩,(ω j).length,(ω j).length+80⟩:=by
 unfold jA;rw [bE,List.getElem?_map,List.getElem?_range hj];rfl
theorem vC {ys:List Nat}(h:Bk w g 65 ((ys++eM n).map bC))(hl:ys.length=n)(hlb:lb≤g)(hn:n≤1099511627000):Own w lb 65 1 (some ⟨g,0,none⟩) n (n+80) (ys.map bC):=
 Own.mk_ hlb h (Nat.le_add_right _ _) (by rw [eA];omega) (by rw [List.length_map,eN,qW,hl,dK]) (by rw [dK,List.map_append,List.take_left' (by rw [List.length_map,hl])])
theorem Sg.fam {lo:Nat}{γ:Nat→Nat}{ω ω':Nat→List Nat}(h:Fam w lo n γ ω')(hl:∀j,(ω' j).length=(ω j).length)(hlb:lb≤lo)(hK:∀j,j<n→(ω j).length≤1048576)(hr:∀j,j<n→P (γ j)):Sg w lb P (jA n γ ω):=by
 refine⟨⟨fun a b f hb r p q o D e=>?_,fun a f=>?_⟩,fun a f p o=>?_⟩
 ·rw [pA] at f hb
  rw [sV f] at o
  rw [sV hb] at D
  cases o;cases D
  exact r (h.inj f hb e)
 ·rw [pA] at f
  rw [sV f]
  obtain⟨h1,_,E⟩:=h.1 a f
  rw [hl] at E
  exact⟨ω' a,vC E (hl a) (aE hlb h1) (aE (hK a f) (by decide)),fun h=>absurd h (Nat.not_lt_zero _),fun _=>rfl⟩
 ·rw [pA] at f
  rw [sV f] at o
  cases o
  exact hr a f
end
theorem J8 {σ:Nat→Bool}{γ:Nat→Nat}{ω:Nat→List Nat}(h:Cz us n σ γ ω):∀i,i<n→(us.take (n*2))[i*2+1]?=some ((jA n γ ω).getD i Lst.z).v:=fun i hi=>by
 rw [List.getElem?_take,if_pos (by omega),(h i hi).2,sV hi];rfl
theorem GM (h:∀x,x∈ls→x.n≤M)(a:Nat):(ls.getD a Lst.z).n≤M:=by
 rw [bE]
 by_cases e:a<ls.length
 ·rw [bR e];exact h _ (List.getElem_mem e)
 ·rw [List.getElem?_eq_none (by omega)];exact bJ _
theorem GN {γ:Nat→Nat}{ω:Nat→List Nat}(h:∀j,j<n→(ω j).length≤M):∀x,x∈jA n γ ω→x.n≤M:=fun x hx=>by
 unfold jA at hx
 obtain⟨j,hj,rfl⟩:=List.mem_map.1 hx
 exact h j (List.mem_range.1 hj)
theorem WT {lb g':Nat}(ho:Own w b 24 2 (some ⟨g,0,none⟩) n c us)(hk:Own w b' 24 2 (some ⟨g',0,none⟩) m d vs)(h1:lb≤b)(h2:lb≤b')(hne:g≠g'):Ai1 w lb [⟨some ⟨g,0,none⟩,n,c⟩,⟨some ⟨g',0,none⟩,m,d⟩] 0 0:=by
 refine⟨fun a b f hb e p q o r=>?_,fun a f=>?_⟩
 ·simp only [gD,List.length_nil] at f hb
  match a,b,f,hb with
  | 0,0,_,_=>exact absurd rfl e
  | 0,1,_,_=>cases o;cases r;exact hne
  | 1,0,_,_=>cases o;cases r;exact Ne.symm hne
  | 1,1,_,_=>exact absurd rfl e
 ·simp only [gD,List.length_nil] at f
  match a,f with
  | 0,_=>exact⟨us,ho.mono h1,fun h=>absurd h (Nat.not_lt_zero _),fun _=>Mk.zero _ _ _⟩
  | 1,_=>exact⟨vs,hk.mono h2,fun h=>absurd h (Nat.not_lt_zero _),fun _=>Mk.zero _ _ _⟩
theorem MI (h:i<ls.length):ls.take i++ [⟨(ls.getD i Lst.z).A,(ls.getD i Lst.z).n,(ls.getD i Lst.z).c⟩]=ls.take (i+1):=by
 rw [List.take_add_one,bE,bR h];rfl
section
variable {w w':a0}{lo hi:Nat}
theorem Zr.upT (h:Zr w b s A n c x)(u:UpT lo hi w w')(hA:∀p,A=some p→p.block<lo∨hi≤p.block):Zr w' b s A n c x:=⟨h.sgn,h.len,u.own h.own hA⟩
theorem Fam.updN {l:Nat}{γ:Nat→Nat}{ω:Nat→List Nat}(h:Fam w l n γ ω)(u:Upd g w w')(hne:∀j,j<n→γ j≠g):Fam w' l n γ ω:=⟨fun j hj=>⟨(h.1 j hj).1,(h.1 j hj).2.1,(h.1 j hj).2.2.updN u (hne j hj)⟩,h.2⟩
end
theorem TC {nb:Nat}(hx:Zi w sa Aa na ca x)(la:na≤1048576)(hy:Zi w sb Ab nb cb y)(lb:nb≤1048576)(hz:Zi w sd Ad nd cd z)(ld:nd≤1048576)(hl:Zl w A n1 c1 zs ms)(hmb:∀i,ms.getD i 0≤1048576)(hl2:Zl w C n2 c2 ys ms2)(hmb2:∀i,ms2.getD i 0≤1048576)(hbs:∀b,b∈bs→b<256)(hlen:bs.length≤1048576):aQ aH 56 #[.agg #[a9 k,.bool sa,i9 Aa na ca,.bool sb,i9 Ab nb cb,.bool sd,i9 Ad nd cd,a9 nn,a9 mm,.string (aM bs),i9 A n1 c1,i9 C n2 c2]] w (Gv w (AnsR w.heap.size (cE k x y bs))):=by
 have Lx:ln x≤1048576:=aE hx.ln la
 have Ly:ln y≤1048576:=aE hy.ln lb
 have Lz:ln z≤1048576:=aE hz.ln ld
 have kv:∀i,ln (zs.getD i 0)≤1048576:=jB hl hmb
 have kw:∀i,ln (ys.getD i 0)≤1048576:=jB hl2 hmb2
 refine bL Tryz.func56 G (n:=102) G (bq G) (args:= [.agg #[a9 k,.bool sa,i9 Aa na ca,.bool sb,i9 Ab nb cb,.bool sd,i9 Ad nd cd,a9 nn,a9 mm,.string (aM bs),i9 A n1 c1,i9 C n2 c2]]) (bF [(0,.agg #[a9 k,.bool sa,i9 Aa na ca,.bool sb,i9 Ab nb cb,.bool sd,i9 Ad nd cd,a9 nn,a9 mm,.string (aM bs),i9 A n1 c1,i9 C n2 c2])] ⟨rfl,up⟩ (sr (bx [a9 k,.bool sa,i9 Aa na ca,.bool sb,i9 Ab nb cb,.bool sd,i9 Ad nd cd,a9 nn,a9 mm,.string (aM bs),i9 A n1 c1,i9 C n2 c2] (Ext.refl w) G G G fun g1 _ E _ _ ka=>(cO [F0,S0,F0,S0,I0,I0,I0,.string ⟨#[]⟩,I0] ka E.lt (fun _=>by kernel_rfl) G fun _ v7 az M _ e8 kr=>(a1 (sr (pu (v:= .agg #[F0,S0,F0,S0,I0,I0,I0,.string ⟨#[]⟩,I0]) G (cO [F0,S0,F0,S0,I0,I0,I0,.string ⟨#[]⟩,I0] kr az.lt (fun _=>by kernel_rfl) G fun q _ V p _ f kq=>(so bD V [F0,S0,F0,S0,I0,I0,I0,.string ⟨#[]⟩,I0] kq p G G G G fun _ L e o=>(a1 (a7 (sr (pf g1 0 G ?_)))))))))))))
 refine aL G G (aP (fun _=>by kernel_rfl) ((E.ext (e8.t f)).vN e) G) (a1 (bI (a7 ?_)))
 by_cases D:k=14
 ·refine a6 (aA G G G true (dD D) (mv 1 G (a1 (aY G (a6 (pf g1 1 G (lo aB ((E.ext (e8.t f)).vN e) (O sa Aa na ca) G G G (pf g1 3 G (lo aB ((E.ext (e8.t f)).vN e) (O sb Ab nb cb) G G G ?_)))))))))
  have jz:ln (qT x y)≤1048576:=pC Lx
  have ks:ln (rT x y)≤1048576:=pB Lx
  refine cl (vs:= [J sa Aa na ca,J sb Ab nb cb]) o (vZ o.size (hx.ext o) (aO la G) (hy.ext o) (aO lb G)) G (by kernel_rfl) fun _ _ kn jq r=>?_
  obtain⟨_,_,_,rfl,⟨bd,bh,bo,bv,rfl,ki⟩,⟨cv,dd,cj,ef,rfl,ko⟩,rfl⟩:=kn
  refine mv 1 G (pu (v:= J bd bh bo bv) G (pu (v:= J cv dd cj ef) G (pu (v:= a9 (eZ y)) G (pf q 0 G ?_))))
  have fp:=(L.ext jq)
  refine so aB fp [.bool bd,i9 bh bo bv,F0,S0,I0,I0,I0,.string ⟨#[]⟩,I0] r p G G G G fun _ fd iq I=>(pf q 2 G (so aB fd [.bool bd,i9 bh bo bv,.bool cv,i9 dd cj ef,I0,I0,I0,.string ⟨#[]⟩,I0] I p G G G G fun _ fk ie H=>(pf q 8 G (d6 G G G (fun _=>by kernel_rfl) G fk (bq G) G [.bool bd,i9 bh bo bv,.bool cv,i9 dd cj ef,I0,I0,I0,.string ⟨#[]⟩,a9 (eZ y)] G fun _ jn fw _=>?_))))
  have W:=fw.ext H p
  refine aS (bG (aC (sr (lo bD jn [.bool bd,i9 bh bo bv,.bool cv,i9 dd cj ef,I0,I0,I0,.string ⟨#[]⟩,a9 (eZ y)] G G G ?_))))
  have fq:=((((((az.ext f).vN e).ext jq).vN iq).vN ie).vN fw)
  refine so bD fq [.bool bd,i9 bh bo bv,.bool cv,i9 dd cj ef,I0,I0,I0,.string ⟨#[]⟩,a9 (eZ y)] W M G G G G fun _ jb jp fs=>(a1 (aU (aT [.agg #[.bool bd,i9 bh bo bv,.bool cv,i9 dd cj ef,I0,I0,I0,.string ⟨#[]⟩,a9 (eZ y)]] G ⟨⟨_,rfl,bA bD jb [.bool bd,i9 bh bo bv,.bool cv,i9 dd cj ef,I0,I0,I0,.string ⟨#[]⟩,a9 (eZ y)] G (bq G) rfl⟩,up⟩ ?_)))
  have hs:cE k x y bs=⟨qT x y,rT x y,0,0,0,[],eZ y⟩:=by unfold cE;rw [if_pos D]
  exact⟨_,rfl,AnsR.of hs ⟨_,_,_,_,_,_,_,_,rfl,((((ki.updT fp iq).updT fd ie).updT fk fw).updT fq jp),((((ko.updT fp iq).updT fd ie).updT fk fw).updT fq jp),(aO jz G),(aO ks G),(fun c hc=>absurd hc (by simp))⟩,fs⟩
 ·refine a6 (aA G G G false (cB (h:=D)) (mv 1 G (a1 (aN G (a7 ?_)))))
  by_cases F:k=15
  ·refine a6 (aA G G G true (dD F) (mv 1 G (a1 (aY G (a6 (pf g1 1 G (lo aB ((E.ext (e8.t f)).vN e) (O sa Aa na ca) G G G (pf g1 3 G (lo aB ((E.ext (e8.t f)).vN e) (O sb Ab nb cb) G G G ?_)))))))))
   have ke:ln (qF x y)≤1048578:=GK Lx
   have kd:ln (rF x y)≤2097153:=GJ Lx Ly
   refine cl (vs:= [J sa Aa na ca,J sb Ab nb cb]) o (S5 o.size (hx.ext o) (aO la G) (hy.ext o) (aO lb G)) G (by kernel_rfl) fun _ _ kp ji r=>?_
   obtain⟨_,_,_,rfl,⟨bm,bu,bg,bz,rfl,kf⟩,⟨dl,dt,dx,dw,rfl,kb⟩,rfl⟩:=kp
   refine mv 1 G (pu (v:= J bm bu bg bz) G (pu (v:= J dl dt dx dw) G (pu (v:= a9 (eZ y)) G (pf q 0 G ?_))))
   have fj:=(L.ext ji)
   refine so aB fj [.bool bm,i9 bu bg bz,F0,S0,I0,I0,I0,.string ⟨#[]⟩,I0] r p G G G G fun _ fa ir I=>(pf q 2 G (so aB fa [.bool bm,i9 bu bg bz,.bool dl,i9 dt dx dw,I0,I0,I0,.string ⟨#[]⟩,I0] I p G G G G fun _ ez iw H=>(pf q 8 G (d6 G G G (fun _=>by kernel_rfl) G ez (bq G) G [.bool bm,i9 bu bg bz,.bool dl,i9 dt dx dw,I0,I0,I0,.string ⟨#[]⟩,a9 (eZ y)] G fun _ jm fx _=>?_))))
   have W:=fx.ext H p
   refine aS (bG (aC (sr (lo bD jm [.bool bm,i9 bu bg bz,.bool dl,i9 dt dx dw,I0,I0,I0,.string ⟨#[]⟩,a9 (eZ y)] G G G ?_))))
   have fi:=((((((az.ext f).vN e).ext ji).vN ir).vN iw).vN fx)
   refine so bD fi [.bool bm,i9 bu bg bz,.bool dl,i9 dt dx dw,I0,I0,I0,.string ⟨#[]⟩,a9 (eZ y)] W M G G G G fun _ jf je fs=>(a1 (aU (aT [.agg #[.bool bm,i9 bu bg bz,.bool dl,i9 dt dx dw,I0,I0,I0,.string ⟨#[]⟩,a9 (eZ y)]] G ⟨⟨_,rfl,bA bD jf [.bool bm,i9 bu bg bz,.bool dl,i9 dt dx dw,I0,I0,I0,.string ⟨#[]⟩,a9 (eZ y)] G (bq G) rfl⟩,up⟩ ?_)))
   have hs:cE k x y bs=⟨qF x y,rF x y,0,0,0,[],eZ y⟩:=by unfold cE;rw [if_neg D,if_pos F]
   exact⟨_,rfl,AnsR.of hs ⟨_,_,_,_,_,_,_,_,rfl,((((kf.updT fj ir).updT fa iw).updT ez fx).updT fi je),((((kb.updT fj ir).updT fa iw).updT ez fx).updT fi je),(aO ke G),(aO kd G),(fun c hc=>absurd hc (by simp))⟩,fs⟩
  ·refine a6 (aA G G G false (cB (h:=F)) (mv 1 G (a1 (aN G (a7 ?_)))))
   by_cases U:k=16
   ·refine a6 (aA G G G true (dD U) (mv 1 G (a1 (aY G (a6 (pf g1 1 G (lo aB ((E.ext (e8.t f)).vN e) (O sa Aa na ca) G G G (pf g1 3 G (lo aB ((E.ext (e8.t f)).vN e) (O sb Ab nb cb) G G G ?_)))))))))
    have kc:ln (qE x y)≤1048578:=vU Lx
    have kj:ln (bZ x y)≤1048576:=nU Ly
    refine cl (vs:= [J sa Aa na ca,J sb Ab nb cb]) o (GU o.size (hx.ext o) (aO la G) (hy.ext o) (aO lb G)) G (by kernel_rfl) fun _ _ kk jr r=>?_
    obtain⟨_,_,_,rfl,⟨bt,bf,bw,bi,rfl,kt⟩,⟨co,du,ct,dg,rfl,ku⟩,rfl⟩:=kk
    refine mv 1 G (pu (v:= J bt bf bw bi) G (pu (v:= J co du ct dg) G (pu (v:= a9 (eZ y)) G (pf q 0 G ?_))))
    have ey:=(L.ext jr)
    refine so aB ey [.bool bt,i9 bf bw bi,F0,S0,I0,I0,I0,.string ⟨#[]⟩,I0] r p G G G G fun _ fb iu I=>(pf q 2 G (so aB fb [.bool bt,i9 bf bw bi,.bool co,i9 du ct dg,I0,I0,I0,.string ⟨#[]⟩,I0] I p G G G G fun _ fc ia H=>(pf q 8 G (d6 G G G (fun _=>by kernel_rfl) G fc (bq G) G [.bool bt,i9 bf bw bi,.bool co,i9 du ct dg,I0,I0,I0,.string ⟨#[]⟩,a9 (eZ y)] G fun _ ju en _=>?_))))
    have W:=en.ext H p
    refine aS (bG (aC (sr (lo bD ju [.bool bt,i9 bf bw bi,.bool co,i9 du ct dg,I0,I0,I0,.string ⟨#[]⟩,a9 (eZ y)] G G G ?_))))
    have cu:=((((((az.ext f).vN e).ext jr).vN iu).vN ia).vN en)
    refine so bD cu [.bool bt,i9 bf bw bi,.bool co,i9 du ct dg,I0,I0,I0,.string ⟨#[]⟩,a9 (eZ y)] W M G G G G fun _ il fy fs=>(a1 (aU (aT [.agg #[.bool bt,i9 bf bw bi,.bool co,i9 du ct dg,I0,I0,I0,.string ⟨#[]⟩,a9 (eZ y)]] G ⟨⟨_,rfl,bA bD il [.bool bt,i9 bf bw bi,.bool co,i9 du ct dg,I0,I0,I0,.string ⟨#[]⟩,a9 (eZ y)] G (bq G) rfl⟩,up⟩ ?_)))
    have hs:cE k x y bs=⟨qE x y,bZ x y,0,0,0,[],eZ y⟩:=by unfold cE;rw [if_neg D,if_neg F,if_pos U]
    exact⟨_,rfl,AnsR.of hs ⟨_,_,_,_,_,_,_,_,rfl,((((kt.updT ey iu).updT fb ia).updT fc en).updT cu fy),((((ku.updT ey iu).updT fb ia).updT fc en).updT cu fy),(aO kc G),(aO kj G),(fun c hc=>absurd hc (by simp))⟩,fs⟩
   ·refine a6 (aA G G G false (cB (h:=U)) (mv 1 G (a1 (aN G (a7 ?_)))))
    by_cases X:k=17
    ·refine a6 (aA G G G true (dD X) (mv 1 G (a1 (aY G (a6 (pf g1 1 G (lo aB ((E.ext (e8.t f)).vN e) (O sa Aa na ca) G G G (pf g1 3 G (lo aB ((E.ext (e8.t f)).vN e) (O sb Ab nb cb) G G G ?_)))))))))
     have jt:ln (vX x y)≤1048576:=GE Lx
     refine cl (vs:= [J sa Aa na ca,J sb Ab nb cb]) o (S6 o.size (hx.ext o) (aO la G) (hy.ext o) (aO lb G)) G (by kernel_rfl) fun _ _ jg ew r=>?_
     obtain⟨_,_,rfl,⟨ab,aj,Y,aa,rfl,jc⟩,rfl⟩:=jg
     refine mv 1 G (pu (v:= J ab aj Y aa) G (pu (v:= a9 (eX x y)) G (pf q 0 G ?_)))
     have ee:=(L.ext ew)
     refine so aB ee [.bool ab,i9 aj Y aa,F0,S0,I0,I0,I0,.string ⟨#[]⟩,I0] r p G G G G fun _ dy fg I=>(pf q 8 G (d6 G G G (fun _=>by kernel_rfl) G dy (bq G) G [.bool ab,i9 aj Y aa,F0,S0,I0,I0,I0,.string ⟨#[]⟩,a9 (eX x y)] G fun _ ib em _=>?_))
     have H:=em.ext I p
     refine aS (bG (aC (sr (lo bD ib [.bool ab,i9 aj Y aa,F0,S0,I0,I0,I0,.string ⟨#[]⟩,a9 (eX x y)] G G G ?_))))
     have df:=(((((az.ext f).vN e).ext ew).vN fg).vN em)
     refine so bD df [.bool ab,i9 aj Y aa,F0,S0,I0,I0,I0,.string ⟨#[]⟩,a9 (eX x y)] H M G G G G fun _ ig gi W=>(a1 (aU (aT [.agg #[.bool ab,i9 aj Y aa,F0,S0,I0,I0,I0,.string ⟨#[]⟩,a9 (eX x y)]] G ⟨⟨_,rfl,bA bD ig [.bool ab,i9 aj Y aa,F0,S0,I0,I0,I0,.string ⟨#[]⟩,a9 (eX x y)] G (bq G) rfl⟩,up⟩ ?_)))
     have hs:cE k x y bs=⟨vX x y,0,0,0,0,[],eX x y⟩:=by unfold cE;rw [if_neg D,if_neg F,if_neg U,if_pos X]
     exact⟨_,rfl,AnsR.of hs ⟨_,_,_,_,_,_,_,_,rfl,(((jc.updT ee fg).updT dy em).updT df gi),(((((((Zr.zero (w:=v7) (base:=w.heap.size)).ext f).updT V e).ext ew).updT ee fg).updT dy em).updT df gi),(aO jt G),(aE (by decide:ln 0≤0) (by decide)),(fun c hc=>absurd hc (by simp))⟩,W⟩
    ·refine a6 (aA G G G false (cB (h:=X)) (mv 1 G (a1 (aN G (a7 ?_)))))
     by_cases aw:k=18
     ·refine a6 (aA G G G true (dD aw) (mv 1 G (a1 (aY G (a6 (pf g1 1 G (lo aB ((E.ext (e8.t f)).vN e) (O sa Aa na ca) G G G (pf g1 3 G (lo aB ((E.ext (e8.t f)).vN e) (O sb Ab nb cb) G G G ?_)))))))))
      have jk:ln (bZ x y)≤1048576:=nU Ly
      refine cl (vs:= [J sa Aa na ca,J sb Ab nb cb]) o (GT o.size (hx.ext o) (aO la G) (hy.ext o) (aO lb G)) G (by kernel_rfl) fun _ _ jh fe r=>?_
      obtain⟨_,_,rfl,⟨aq,ag,au,ai,rfl,jw⟩,rfl⟩:=jh
      refine mv 1 G (pu (v:= J aq ag au ai) G (pu (v:= a9 (eZ y)) G (pf q 0 G ?_)))
      have ch:=(L.ext fe)
      refine so aB ch [.bool aq,i9 ag au ai,F0,S0,I0,I0,I0,.string ⟨#[]⟩,I0] r p G G G G fun _ ck fo I=>(pf q 8 G (d6 G G G (fun _=>by kernel_rfl) G ck (bq G) G [.bool aq,i9 ag au ai,F0,S0,I0,I0,I0,.string ⟨#[]⟩,a9 (eZ y)] G fun _ go ej _=>?_))
      have H:=ej.ext I p
      refine aS (bG (aC (sr (lo bD go [.bool aq,i9 ag au ai,F0,S0,I0,I0,I0,.string ⟨#[]⟩,a9 (eZ y)] G G G ?_))))
      have dm:=(((((az.ext f).vN e).ext fe).vN fo).vN ej)
      refine so bD dm [.bool aq,i9 ag au ai,F0,S0,I0,I0,I0,.string ⟨#[]⟩,a9 (eZ y)] H M G G G G fun _ ix gf W=>(a1 (aU (aT [.agg #[.bool aq,i9 ag au ai,F0,S0,I0,I0,I0,.string ⟨#[]⟩,a9 (eZ y)]] G ⟨⟨_,rfl,bA bD ix [.bool aq,i9 ag au ai,F0,S0,I0,I0,I0,.string ⟨#[]⟩,a9 (eZ y)] G (bq G) rfl⟩,up⟩ ?_)))
      have hs:cE k x y bs=⟨bZ x y,0,0,0,0,[],eZ y⟩:=by unfold cE;rw [if_neg D,if_neg F,if_neg U,if_neg X,if_pos aw]
      exact⟨_,rfl,AnsR.of hs ⟨_,_,_,_,_,_,_,_,rfl,(((jw.updT ch fo).updT ck ej).updT dm gf),(((((((Zr.zero (w:=v7) (base:=w.heap.size)).ext f).updT V e).ext fe).updT ch fo).updT ck ej).updT dm gf),(aO jk G),(aE (by decide:ln 0≤0) (by decide)),(fun c hc=>absurd hc (by simp))⟩,W⟩
     ·refine a6 (aA G G G false (cB (h:=aw)) (mv 1 G (a1 (aN G (a7 ?_)))))
      by_cases ba:k=19
      ·refine a6 (aA G G G true (dD ba) (mv 1 G (a1 (aY G (a6 (pf g1 1 G (lo aB ((E.ext (e8.t f)).vN e) (O sa Aa na ca) G G G (pf g1 3 G (lo aB ((E.ext (e8.t f)).vN e) (O sb Ab nb cb) G G G ?_)))))))))
       have jo:ln (vS x y)≤1048577:=GF Ly
       refine cl (vs:= [J sa Aa na ca,J sb Ab nb cb]) o (S3 o.size (hx.ext o) (aO la G) (hy.ext o) (aO lb G)) G (by kernel_rfl) fun _ _ jx fm r=>?_
       obtain⟨_,_,rfl,⟨ar,Z,ak,am,rfl,jd⟩,rfl⟩:=jx
       refine mv 1 G (pu (v:= J ar Z ak am) G (pu (v:= a9 (eZ y)) G (pf q 0 G ?_)))
       have cf:=(L.ext fm)
       refine so aB cf [.bool ar,i9 Z ak am,F0,S0,I0,I0,I0,.string ⟨#[]⟩,I0] r p G G G G fun _ cx fv I=>(pf q 8 G (d6 G G G (fun _=>by kernel_rfl) G cx (bq G) G [.bool ar,i9 Z ak am,F0,S0,I0,I0,I0,.string ⟨#[]⟩,a9 (eZ y)] G fun _ ij ep _=>?_))
       have H:=ep.ext I p
       refine aS (bG (aC (sr (lo bD ij [.bool ar,i9 Z ak am,F0,S0,I0,I0,I0,.string ⟨#[]⟩,a9 (eZ y)] G G G ?_))))
       have dz:=(((((az.ext f).vN e).ext fm).vN fv).vN ep)
       refine so bD dz [.bool ar,i9 Z ak am,F0,S0,I0,I0,I0,.string ⟨#[]⟩,a9 (eZ y)] H M G G G G fun _ iy fz W=>(a1 (aU (aT [.agg #[.bool ar,i9 Z ak am,F0,S0,I0,I0,I0,.string ⟨#[]⟩,a9 (eZ y)]] G ⟨⟨_,rfl,bA bD iy [.bool ar,i9 Z ak am,F0,S0,I0,I0,I0,.string ⟨#[]⟩,a9 (eZ y)] G (bq G) rfl⟩,up⟩ ?_)))
       have hs:cE k x y bs=⟨vS x y,0,0,0,0,[],eZ y⟩:=by unfold cE;rw [if_neg D,if_neg F,if_neg U,if_neg X,if_neg aw,if_pos ba]
       exact⟨_,rfl,AnsR.of hs ⟨_,_,_,_,_,_,_,_,rfl,(((jd.updT cf fv).updT cx ep).updT dz fz),(((((((Zr.zero (w:=v7) (base:=w.heap.size)).ext f).updT V e).ext fm).updT cf fv).updT cx ep).updT dz fz),(aO jo G),(aE (by decide:ln 0≤0) (by decide)),(fun c hc=>absurd hc (by simp))⟩,W⟩
      ·refine a6 (aA G G G false (cB (h:=ba)) (mv 1 G (a1 (aN G (a7 ?_)))))
       by_cases bj:k=20
       ·refine a6 (aA G G G true (dD bj) (mv 1 G (a1 (aY G (a6 (pf g1 1 G (lo aB ((E.ext (e8.t f)).vN e) (O sa Aa na ca) G G G (cl (vs:= [J sa Aa na ca]) o (TI (hx.ext o) (aO la G)) G (by kernel_rfl) fun _ _ jy el r=>?_))))))))
        obtain rfl:=jy
        refine pf q 7 G ?_
        have de:=(L.ext el)
        refine d6 G G G (fun _=>by kernel_rfl) G de (bq G) G [F0,S0,F0,S0,I0,I0,I0,.string (aM (fE x)),I0] G fun _ gy ei _=>?_
        have I:=ei.ext r p
        refine aS (bG (aC (sr (lo bD gy [F0,S0,F0,S0,I0,I0,I0,.string (aM (fE x)),I0] G G G ?_))))
        have da:=((((az.ext f).vN e).ext el).vN ei)
        refine so bD da [F0,S0,F0,S0,I0,I0,I0,.string (aM (fE x)),I0] I M G G G G fun _ ja ge H=>(a1 (aU (aT [.agg #[F0,S0,F0,S0,I0,I0,I0,.string (aM (fE x)),I0]] G ⟨⟨_,rfl,bA bD ja [F0,S0,F0,S0,I0,I0,I0,.string (aM (fE x)),I0] G (bq G) rfl⟩,up⟩ ?_)))
        have hs:cE k x y bs=⟨0,0,0,0,0,fE x,0⟩:=by unfold cE;rw [if_neg D,if_neg F,if_neg U,if_neg X,if_neg aw,if_neg ba,if_pos bj]
        exact⟨_,rfl,AnsR.of hs ⟨_,_,_,_,_,_,_,_,rfl,((((((Zr.zero (w:=v7) (base:=w.heap.size)).ext f).updT V e).ext el).updT de ei).updT da ge),((((((Zr.zero (w:=v7) (base:=w.heap.size)).ext f).updT V e).ext el).updT de ei).updT da ge),(aE (by decide:ln 0≤0) (by decide)),(aE (by decide:ln 0≤0) (by decide)),DC⟩,H⟩
       ·refine a6 (aA G G G false (cB (h:=bj)) (mv 1 G (a1 (aN G (a7 ?_)))))
        by_cases eh:k=21
        ·refine a6 (aA G G G true (dD eh) (mv 1 G (a1 (aY G (a6 (pf g1 9 G (aL G G (aP (fun _=>by kernel_rfl) ((E.ext (e8.t f)).vN e) G) ?_)))))))
         have jj:ln (rV bs)≤1048576:=GI hlen
         refine cl (vs:= [.string (aM bs)]) o (TN o.size hbs hlen) G (by kernel_rfl) fun _ _ jv ft r=>?_
         obtain⟨_,_,rfl,⟨ao,av,ae,ah,rfl,jl⟩,rfl⟩:=jv
         refine mv 1 G (pu (v:= J ao av ae ah) G (pu (v:= a9 (rE bs)) G (pf q 0 G ?_)))
         have dr:=(L.ext ft)
         refine so aB dr [.bool ao,i9 av ae ah,F0,S0,I0,I0,I0,.string ⟨#[]⟩,I0] r p G G G G fun _ ci fh I=>(pf q 8 G (d6 G G G (fun _=>by kernel_rfl) G ci (bq G) G [.bool ao,i9 av ae ah,F0,S0,I0,I0,I0,.string ⟨#[]⟩,a9 (rE bs)] G fun _ io eg _=>?_))
         have H:=eg.ext I p
         refine aS (bG (aC (sr (lo bD io [.bool ao,i9 av ae ah,F0,S0,I0,I0,I0,.string ⟨#[]⟩,a9 (rE bs)] G G G ?_))))
         have ce:=(((((az.ext f).vN e).ext ft).vN fh).vN eg)
         refine so bD ce [.bool ao,i9 av ae ah,F0,S0,I0,I0,I0,.string ⟨#[]⟩,a9 (rE bs)] H M G G G G fun _ ik gj W=>(a1 (aU (aT [.agg #[.bool ao,i9 av ae ah,F0,S0,I0,I0,I0,.string ⟨#[]⟩,a9 (rE bs)]] G ⟨⟨_,rfl,bA bD ik [.bool ao,i9 av ae ah,F0,S0,I0,I0,I0,.string ⟨#[]⟩,a9 (rE bs)] G (bq G) rfl⟩,up⟩ ?_)))
         have hs:cE k x y bs=⟨rV bs,0,0,0,0,[],rE bs⟩:=by unfold cE;rw [if_neg D,if_neg F,if_neg U,if_neg X,if_neg aw,if_neg ba,if_neg bj,if_pos eh]
         exact⟨_,rfl,AnsR.of hs ⟨_,_,_,_,_,_,_,_,rfl,(((jl.updT dr fh).updT ci eg).updT ce gj),(((((((Zr.zero (w:=v7) (base:=w.heap.size)).ext f).updT V e).ext ft).updT dr fh).updT ci eg).updT ce gj),(aO jj G),(aE (by decide:ln 0≤0) (by decide)),(fun c hc=>absurd hc (by simp))⟩,W⟩
        ·refine a6 (aA G G G false (cB (h:=eh)) (mv 1 G (a1 (aN G (aW (bG (aC (sr (lo bD L [F0,S0,F0,S0,I0,I0,I0,.string ⟨#[]⟩,I0] G G G ?_)))))))))
         have dh:=((az.ext f).vN e)
         refine so bD dh [F0,S0,F0,S0,I0,I0,I0,.string ⟨#[]⟩,I0] o M G G G G fun _ iz gk r=>(a1 (aU (aT [.agg #[F0,S0,F0,S0,I0,I0,I0,.string ⟨#[]⟩,I0]] G ⟨⟨_,rfl,bA bD iz [F0,S0,F0,S0,I0,I0,I0,.string ⟨#[]⟩,I0] G (bq G) rfl⟩,up⟩ ?_)))
         have hs:cE k x y bs=⟨0,0,0,0,0,[],0⟩:=by unfold cE;rw [if_neg D,if_neg F,if_neg U,if_neg X,if_neg aw,if_neg ba,if_neg bj,if_neg eh]
         exact⟨_,rfl,AnsR.of hs ⟨_,_,_,_,_,_,_,_,rfl,((((Zr.zero (w:=v7) (base:=w.heap.size)).ext f).updT V e).updT dh gk),((((Zr.zero (w:=v7) (base:=w.heap.size)).ext f).updT V e).updT dh gk),(aE (by decide:ln 0≤0) (by decide)),(aE (by decide:ln 0≤0) (by decide)),(fun c hc=>absurd hc (by simp))⟩,r⟩
theorem TD {nb:Nat}(hx:Zi w sa Aa na ca x)(la:na≤1048576)(hy:Zi w sb Ab nb cb y)(lb:nb≤1048576)(hz:Zi w sd Ad nd cd z)(ld:nd≤1048576)(hl:Zl w A n1 c1 zs ms)(hmb:∀i,ms.getD i 0≤1048576)(hl2:Zl w C n2 c2 ys ms2)(hmb2:∀i,ms2.getD i 0≤1048576)(hbs:∀b,b∈bs→b<256)(hlen:bs.length≤1048576)(hb:b≤w.heap.size):aQ aH 56 #[.agg #[a9 k,.bool sa,i9 Aa na ca,.bool sb,i9 Ab nb cb,.bool sd,i9 Ad nd cd,a9 nn,a9 mm,.string (aM bs),i9 A n1 c1,i9 C n2 c2]] w (Gv w (AnsR b (cE k x y bs))):=(TC hx la hy lb hz ld hl hmb hl2 hmb2 hbs hlen).mono (Gv.imp (AnsR.imp hb))
theorem TE {nb:Nat}(hx:Zi w sa Aa na ca x)(la:na≤1048576)(hy:Zi w sb Ab nb cb y)(lb:nb≤1048576)(hz:Zi w sd Ad nd cd z)(ld:nd≤1048576)(hl:Zl w A n1 c1 zs ms)(hmb:∀i,ms.getD i 0≤1048576)(hl2:Zl w C n2 c2 ys ms2)(hmb2:∀i,ms2.getD i 0≤1048576)(hn1:n1≤1048576)(hn2:n2≤1048576)(hbs:∀b,b∈bs→b<256)(hlen:bs.length≤1048576)(hm1: -9223372036854775808≤mm)(hm2:mm≤9223372036854775807):aQ aH 9 #[.agg #[a9 k,.bool sa,i9 Aa na ca,.bool sb,i9 Ab nb cb,.bool sd,i9 Ad nd cd,a9 nn,a9 mm,.string (aM bs),i9 A n1 c1,i9 C n2 c2]] w (Gv w (AnsR w.heap.size (cP k x y z nn mm bs zs ys n1 n2))):=by
 have Lx:ln x≤1048576:=aE hx.ln la
 have Ly:ln y≤1048576:=aE hy.ln lb
 have Lz:ln z≤1048576:=aE hz.ln ld
 have mt:∀i,ln (zs.getD i 0)≤1048576:=jB hl hmb
 have jh:∀i,ln (ys.getD i 0)≤1048576:=jB hl2 hmb2
 refine bL Tryz.func9 G (n:=129) G (bq G) (args:= [.agg #[a9 k,.bool sa,i9 Aa na ca,.bool sb,i9 Ab nb cb,.bool sd,i9 Ad nd cd,a9 nn,a9 mm,.string (aM bs),i9 A n1 c1,i9 C n2 c2]]) (bF [(0,.agg #[a9 k,.bool sa,i9 Aa na ca,.bool sb,i9 Ab nb cb,.bool sd,i9 Ad nd cd,a9 nn,a9 mm,.string (aM bs),i9 A n1 c1,i9 C n2 c2])] ⟨rfl,up⟩ (sr (bx [a9 k,.bool sa,i9 Aa na ca,.bool sb,i9 Ab nb cb,.bool sd,i9 Ad nd cd,a9 nn,a9 mm,.string (aM bs),i9 A n1 c1,i9 C n2 c2] (Ext.refl w) G G G fun U _ p _ _ oo=>(cO [F0,S0,F0,S0,I0,I0,I0,.string ⟨#[]⟩,I0] oo p.lt (fun _=>by kernel_rfl) G fun _ v7 W I _ M oy=>(a1 (sr (pu (v:= .agg #[F0,S0,F0,S0,I0,I0,I0,.string ⟨#[]⟩,I0]) G (cO [F0,S0,F0,S0,I0,I0,I0,.string ⟨#[]⟩,I0] oy W.lt (fun _=>by kernel_rfl) G fun V _ E r _ e pm=>(so bD E [F0,S0,F0,S0,I0,I0,I0,.string ⟨#[]⟩,I0] pm r G G G G fun _ L f o=>(a1 (a7 (sr (pf U 0 G ?_)))))))))))))
 refine aL G G (aP (fun _=>by kernel_rfl) ((p.ext (M.t e)).vN f) G) (a1 (bI (a7 ?_)))
 by_cases H:14≤k
 ·refine a6 (aA G G G false (cB) (mv 1 G (a1 (aN G (sr (aA G G G false (cB) (mv 1 G (a1 (aN G (sr (aA G G G false (cB) (mv 1 G (aS ?_)))))))))))))
  refine aC (aN G (sr (aA G G G false (cB) (mv 1 G (a1 (aN G (sr (aA G G G false (cB) (mv 1 G (a1 (aN G (sr (aA G G G false (cB) ?_)))))))))))))
  refine mv 1 G (a1 (aN G (sr (aA G G G false (cB) (mv 1 G (a1 (aN G (sr (aA G G G false (cB) (mv 1 G (a1 (aN G (a7 ?_)))))))))))))
  refine a6 (aA G G G false (cB) (mv 1 G (a1 (aN G (sr (aA G G G false (cB) (mv 1 G (a1 (aN G (sr (aA G G G false (cB) (mv 1 G (aS ?_)))))))))))))
  refine aC (aN G (sr (aA G G G false (cB) (mv 1 G (a1 (aN G (sr (aA G G G false (cB) (mv 1 G (a1 (aN G (aW (bG ?_)))))))))))))
  refine aC (a7 (sr (pf U 0 G (aL G G (aP (fun _=>by kernel_rfl) ((p.ext (M.t e)).vN f) G) (aA G G G true (pG H) (a1 (aY G (sr (lo m7 ((p.ext (M.t e)).vN f) [a9 k,.bool sa,i9 Aa na ca,.bool sb,i9 Ab nb cb,.bool sd,i9 Ad nd cd,a9 nn,a9 mm,.string (aM bs),i9 A n1 c1,i9 C n2 c2] G G G (cl (vs:= [.agg #[a9 k,.bool sa,i9 Aa na ca,.bool sb,i9 Ab nb cb,.bool sd,i9 Ad nd cd,a9 nn,a9 mm,.string (aM bs),i9 A n1 c1,i9 C n2 c2]]) o (TD (hx.ext o) (aO la G) (hy.ext o) (aO lb G) (hz.ext o) (aO ld G) (hl.ext o) hmb (hl2.ext o) hmb2 hbs hlen o.size) G (by kernel_rfl) fun _ _ ov pg D=>?_))))))))))
  obtain⟨kr,ka,kx,ky,jy,kz,ju,kn,rfl,mw,mh,oh,mb,ni⟩:=ov
  have io:=(((W.ext e).vN f).ext pg)
  refine so bD io [.bool kr,i9 ka kx ky,.bool jy,i9 kz ju kn,a9 ((cE k x y bs).V),a9 ((cE k x y bs).P),a9 ((cE k x y bs).Q),.string (aM (cE k x y bs).S),a9 ((cE k x y bs).E)] D I G G G G fun _ nw mc q=>(a1 (aU (bU (aT [.agg #[.bool kr,i9 ka kx ky,.bool jy,i9 kz ju kn,a9 ((cE k x y bs).V),a9 ((cE k x y bs).P),a9 ((cE k x y bs).Q),.string (aM (cE k x y bs).S),a9 ((cE k x y bs).E)]] G ⟨⟨_,rfl,bA bD nw [.bool kr,i9 ka kx ky,.bool jy,i9 kz ju kn,a9 ((cE k x y bs).V),a9 ((cE k x y bs).P),a9 ((cE k x y bs).Q),.string (aM (cE k x y bs).S),a9 ((cE k x y bs).E)] G (bq G) rfl⟩,up⟩ ?_))))
  have hs:cP k x y z nn mm bs zs ys n1 n2=cE k x y bs:=by unfold cP;rw [if_pos H]
  exact⟨_,rfl,AnsR.of hs ⟨_,_,_,_,_,_,_,_,rfl,(mw.updT io mc),(mh.updT io mc),oh,mb,ni⟩,q⟩
 ·by_cases X:k=1
  ·refine a6 (aA G G G true (dD X) (mv 1 G (a1 (aY G (a6 (pf U 1 G (lo aB ((p.ext (M.t e)).vN f) (O sa Aa na ca) G G G (cl (vs:= [J sa Aa na ca]) o (B5 o.size (hx.ext o) (aO la G)) G (by kernel_rfl) fun _ _ ph jg D=>?_))))))))
   obtain⟨ia,ix,il,gj,rfl,oz⟩:=ph
   refine pf V 0 G ?_
   have iw:=(L.ext jg)
   refine so aB iw [.bool ia,i9 ix il gj,F0,S0,I0,I0,I0,.string ⟨#[]⟩,I0] D r G G G G fun _ nu jf q=>(aS (bG (aC (a7 (sr (pf U 0 G (aL G G (aP (fun _=>by kernel_rfl) ((((p.ext (M.t e)).vN f).ext jg).vN jf) G) (aA G G G false (eF) (a1 (aN G (aW (aC (a7 ?_)))))))))))))
   refine a6 (lo bD nu [.bool ia,i9 ix il gj,F0,S0,I0,I0,I0,.string ⟨#[]⟩,I0] G G G ?_)
   have iq:=((((W.ext e).vN f).ext jg).vN jf)
   refine so bD iq [.bool ia,i9 ix il gj,F0,S0,I0,I0,I0,.string ⟨#[]⟩,I0] q I G G G G fun _ mg my F=>(a1 (aU (aT [.agg #[.bool ia,i9 ix il gj,F0,S0,I0,I0,I0,.string ⟨#[]⟩,I0]] G ⟨⟨_,rfl,bA bD mg [.bool ia,i9 ix il gj,F0,S0,I0,I0,I0,.string ⟨#[]⟩,I0] G (bq G) rfl⟩,up⟩ ?_)))
   have hs:cP k x y z nn mm bs zs ys n1 n2=⟨x,0,0,0,0,[],0⟩:=by unfold cP;rw [if_neg H,if_pos X]
   exact⟨_,rfl,AnsR.of hs ⟨_,_,_,_,_,_,_,_,rfl,((oz.updT iw jf).updT iq my),((((((Zr.zero (w:=v7) (base:=w.heap.size)).ext e).updT E f).ext jg).updT iw jf).updT iq my),(aO Lx G),(aE (by decide:ln 0≤0) (by decide)),(fun c hc=>absurd hc (by simp))⟩,F⟩
  ·refine a6 (aA G G G false (cB (h:=X)) (mv 1 G (a1 (aN G (a7 ?_)))))
   by_cases Y:k=2
   ·refine a6 (aA G G G true (dD Y) (mv 1 G (a1 (aY G (a6 (pf U 8 G (aL G G (aP (fun _=>by kernel_rfl) ((p.ext (M.t e)).vN f) G) ?_)))))))
    have oq:ln (mm)≤1:=vW (by omega)
    refine cl (vs:= [a9 mm]) o (wI o.size (h1:=hm1) (h2:=hm2)) G (by kernel_rfl) fun _ _ ot jd D=>?_
    obtain⟨ig,ie,gk,jc,rfl,pk⟩:=ot
    refine pf V 0 G ?_
    have jb:=(L.ext jd)
    refine so aB jb [.bool ig,i9 ie gk jc,F0,S0,I0,I0,I0,.string ⟨#[]⟩,I0] D r G G G G fun _ nf je q=>(aS (bG (aC (a7 (sr (pf U 0 G (aL G G (aP (fun _=>by kernel_rfl) ((((p.ext (M.t e)).vN f).ext jd).vN je) G) (aA G G G false (eF) (a1 (aN G (aW (aC (a7 ?_)))))))))))))
    refine a6 (lo bD nf [.bool ig,i9 ie gk jc,F0,S0,I0,I0,I0,.string ⟨#[]⟩,I0] G G G ?_)
    have ja:=((((W.ext e).vN f).ext jd).vN je)
    refine so bD ja [.bool ig,i9 ie gk jc,F0,S0,I0,I0,I0,.string ⟨#[]⟩,I0] q I G G G G fun _ nh nk F=>(a1 (aU (aT [.agg #[.bool ig,i9 ie gk jc,F0,S0,I0,I0,I0,.string ⟨#[]⟩,I0]] G ⟨⟨_,rfl,bA bD nh [.bool ig,i9 ie gk jc,F0,S0,I0,I0,I0,.string ⟨#[]⟩,I0] G (bq G) rfl⟩,up⟩ ?_)))
    have hs:cP k x y z nn mm bs zs ys n1 n2=⟨mm,0,0,0,0,[],0⟩:=by unfold cP;rw [if_neg H,if_neg X,if_pos Y]
    exact⟨_,rfl,AnsR.of hs ⟨_,_,_,_,_,_,_,_,rfl,((pk.updT jb je).updT ja nk),((((((Zr.zero (w:=v7) (base:=w.heap.size)).ext e).updT E f).ext jd).updT jb je).updT ja nk),(aO oq G),(aE (by decide:ln 0≤0) (by decide)),(fun c hc=>absurd hc (by simp))⟩,F⟩
   ·refine a6 (aA G G G false (cB (h:=Y)) (mv 1 G (a1 (aN G (a7 ?_)))))
    by_cases Z:k=3
    ·refine a6 (aA G G G true (dD Z) (mv 1 G (a1 (aY G (a6 (pf U 1 G (lo aB ((p.ext (M.t e)).vN f) (O sa Aa na ca) G G G (cl (vs:= [J sa Aa na ca]) o (TL (hx.ext o) (aO la G)) G (by kernel_rfl) fun _ _ pd ik D=>?_))))))))
     obtain⟨_,_,rfl,rfl,rfl⟩:=pd
     refine mv 1 G (pu (v:= a9 (eT x)) G (pu (v:= a9 (fF x)) G (pf V 4 G ?_)))
     have go:=(L.ext ik)
     refine d6 G G G (fun _=>by kernel_rfl) G go (bq G) G [F0,S0,F0,S0,a9 (eT x),I0,I0,.string ⟨#[]⟩,I0] G fun _ ij gy _=>?_
     have q:=gy.ext D r
     refine pf V 8 G (d6 G G G (fun _=>by kernel_rfl) G ij (bq G) G [F0,S0,F0,S0,a9 (eT x),I0,I0,.string ⟨#[]⟩,a9 (fF x)] G fun _ lj iy _=>?_)
     have F:=iy.ext q r
     refine aS (bG (aC (a7 (sr (pf U 0 G (aL G G (aP (fun _=>by kernel_rfl) (((((p.ext (M.t e)).vN f).ext ik).vN gy).vN iy) G) (aA G G G false (eF) (a1 (aN G (aW (aC (sr (lo bD lj [F0,S0,F0,S0,a9 (eT x),I0,I0,.string ⟨#[]⟩,a9 (fF x)] G G G ?_)))))))))))))
     have iu:=(((((W.ext e).vN f).ext ik).vN gy).vN iy)
     refine so bD iu [F0,S0,F0,S0,a9 (eT x),I0,I0,.string ⟨#[]⟩,a9 (fF x)] F I G G G G fun _ mx oe ba=>(a1 (aU (aT [.agg #[F0,S0,F0,S0,a9 (eT x),I0,I0,.string ⟨#[]⟩,a9 (fF x)]] G ⟨⟨_,rfl,bA bD mx [F0,S0,F0,S0,a9 (eT x),I0,I0,.string ⟨#[]⟩,a9 (fF x)] G (bq G) rfl⟩,up⟩ ?_)))
     have hs:cP k x y z nn mm bs zs ys n1 n2=⟨0,0,eT x,0,0,[],fF x⟩:=by unfold cP;rw [if_neg H,if_neg X,if_neg Y,if_pos Z]
     exact⟨_,rfl,AnsR.of hs ⟨_,_,_,_,_,_,_,_,rfl,(((((((Zr.zero (w:=v7) (base:=w.heap.size)).ext e).updT E f).ext ik).updT go gy).updT ij iy).updT iu oe),(((((((Zr.zero (w:=v7) (base:=w.heap.size)).ext e).updT E f).ext ik).updT go gy).updT ij iy).updT iu oe),(aE (by decide:ln 0≤0) (by decide)),(aE (by decide:ln 0≤0) (by decide)),(fun c hc=>absurd hc (by simp))⟩,ba⟩
    ·refine a6 (aA G G G false (cB (h:=Z)) (mv 1 G (a1 (aN G (a7 ?_)))))
     by_cases aa:k=4
     ·refine a6 (aA G G G true (dD aa) (mv 1 G (a1 (aY G (sr (pf U 1 G (lo aB ((p.ext (M.t e)).vN f) (O sa Aa na ca) G G G (cl (vs:= [J sa Aa na ca]) o (jJ (hx.ext o) (aO la G)) G (by kernel_rfl) fun _ _ ou bd D=>?_))))))))
      obtain rfl:=ou
      refine pf V 4 G ?_
      have ib:=(L.ext bd)
      refine d6 G G G (fun _=>by kernel_rfl) G ib (bq G) G [F0,S0,F0,S0,a9 (bH x 0),I0,I0,.string ⟨#[]⟩,I0] G fun _ mf bf _=>?_
      have q:=bf.ext D r
      refine a1 (sr (pf U 1 G (lo aB ((((p.ext (M.t e)).vN f).ext bd).vN bf) (O sa Aa na ca) G G G (pf U 3 G (lo aB ((((p.ext (M.t e)).vN f).ext bd).vN bf) (O sb Ab nb cb) G G G (cl (vs:= [J sa Aa na ca,J sb Ab nb cb]) q (TV (hx.ext q) (aO la G) (hy.ext q) (aO lb G)) G (by kernel_rfl) fun _ _ pe eh F=>?_))))))
      obtain rfl:=pe
      refine pf V 5 G ?_
      have iz:=(mf.ext eh)
      refine d6 G G G (fun _=>by kernel_rfl) G iz (bq G) G [F0,S0,F0,S0,a9 (bH x 0),a9 (bH x y),I0,.string ⟨#[]⟩,I0] G fun _ lp el _=>?_
      have ba:=el.ext F r
      refine a1 (a6 (pf U 1 G (lo aB ((((((p.ext (M.t e)).vN f).ext bd).vN bf).ext eh).vN el) (O sa Aa na ca) G G G (pf U 3 G (lo aB ((((((p.ext (M.t e)).vN f).ext bd).vN bf).ext eh).vN el) (O sb Ab nb cb) G G G (cl (vs:= [J sa Aa na ca,J sb Ab nb cb]) ba (wJ (hx.ext ba) (aO la G) (hy.ext ba) (aO lb G)) G (by kernel_rfl) fun _ _ ow ir pj=>?_))))))
      obtain rfl:=ow
      refine pf V 6 G ?_
      have ew:=(lp.ext ir)
      refine d6 G G G (fun _=>by kernel_rfl) G ew (bq G) G [F0,S0,F0,S0,a9 (bH x 0),a9 (bH x y),a9 (cX (Int.natAbs x) (Int.natAbs y)),.string ⟨#[]⟩,I0] G fun _ jz dm _=>?_
      have lv:=dm.ext pj r
      refine aS (bG (aC (a7 (sr (pf U 0 G (aL G G (aP (fun _=>by kernel_rfl) ((((((((p.ext (M.t e)).vN f).ext bd).vN bf).ext eh).vN el).ext ir).vN dm) G) (aA G G G false (eF) (a1 (aN G (aW (aC (sr (lo bD jz [F0,S0,F0,S0,a9 (bH x 0),a9 (bH x y),a9 (cX (Int.natAbs x) (Int.natAbs y)),.string ⟨#[]⟩,I0] G G G ?_)))))))))))))
      have fd:=((((((((W.ext e).vN f).ext bd).vN bf).ext eh).vN el).ext ir).vN dm)
      refine so bD fd [F0,S0,F0,S0,a9 (bH x 0),a9 (bH x y),a9 (cX (Int.natAbs x) (Int.natAbs y)),.string ⟨#[]⟩,I0] lv I G G G G fun _ jw jm nt=>(a1 (aU (aT [.agg #[F0,S0,F0,S0,a9 (bH x 0),a9 (bH x y),a9 (cX (Int.natAbs x) (Int.natAbs y)),.string ⟨#[]⟩,I0]] G ⟨⟨_,rfl,bA bD jw [F0,S0,F0,S0,a9 (bH x 0),a9 (bH x y),a9 (cX (Int.natAbs x) (Int.natAbs y)),.string ⟨#[]⟩,I0] G (bq G) rfl⟩,up⟩ ?_)))
      have hs:cP k x y z nn mm bs zs ys n1 n2=⟨0,0,bH x 0,bH x y,cX (Int.natAbs x) (Int.natAbs y),[],0⟩:=by unfold cP;rw [if_neg H,if_neg X,if_neg Y,if_neg Z,if_pos aa]
      exact⟨_,rfl,AnsR.of hs ⟨_,_,_,_,_,_,_,_,rfl,((((((((((Zr.zero (w:=v7) (base:=w.heap.size)).ext e).updT E f).ext bd).updT ib bf).ext eh).updT iz el).ext ir).updT ew dm).updT fd jm),((((((((((Zr.zero (w:=v7) (base:=w.heap.size)).ext e).updT E f).ext bd).updT ib bf).ext eh).updT iz el).ext ir).updT ew dm).updT fd jm),(aE (by decide:ln 0≤0) (by decide)),(aE (by decide:ln 0≤0) (by decide)),(fun c hc=>absurd hc (by simp))⟩,nt⟩
     ·refine a6 (aA G G G false (cB (h:=aa)) (mv 1 G (a1 (aN G (a7 ?_)))))
      by_cases ae:k=5
      ·refine a6 (aA G G G true (dD ae) (mv 1 G (a1 (aY G (a6 (pf U 1 G (lo aB ((p.ext (M.t e)).vN f) (O sa Aa na ca) G G G ?_)))))))
       have ny:ln (-x)≤1048576:=(by rw [sX];exact Lx)
       refine cl (vs:= [J sa Aa na ca]) o (TS o.size (hx.ext o) (aO la G)) G (by kernel_rfl) fun _ _ lh fs D=>?_
       obtain⟨bz,dh,cu,bj,rfl,mn⟩:=lh
       refine pf V 0 G ?_
       have ei:=(L.ext fs)
       refine so aB ei [.bool bz,i9 dh cu bj,F0,S0,I0,I0,I0,.string ⟨#[]⟩,I0] D r G G G G fun _ ks fm q=>(aS (bG (aC (a7 (sr (pf U 0 G (aL G G (aP (fun _=>by kernel_rfl) ((((p.ext (M.t e)).vN f).ext fs).vN fm) G) (aA G G G false (eF) (a1 (aN G (aW (aC (a7 ?_)))))))))))))
       refine a6 (lo bD ks [.bool bz,i9 dh cu bj,F0,S0,I0,I0,I0,.string ⟨#[]⟩,I0] G G G ?_)
       have en:=((((W.ext e).vN f).ext fs).vN fm)
       refine so bD en [.bool bz,i9 dh cu bj,F0,S0,I0,I0,I0,.string ⟨#[]⟩,I0] q I G G G G fun _ kt jt F=>(a1 (aU (aT [.agg #[.bool bz,i9 dh cu bj,F0,S0,I0,I0,I0,.string ⟨#[]⟩,I0]] G ⟨⟨_,rfl,bA bD kt [.bool bz,i9 dh cu bj,F0,S0,I0,I0,I0,.string ⟨#[]⟩,I0] G (bq G) rfl⟩,up⟩ ?_)))
       have hs:cP k x y z nn mm bs zs ys n1 n2=⟨-x,0,0,0,0,[],0⟩:=by unfold cP;rw [if_neg H,if_neg X,if_neg Y,if_neg Z,if_neg aa,if_pos ae]
       exact⟨_,rfl,AnsR.of hs ⟨_,_,_,_,_,_,_,_,rfl,((mn.updT ei fm).updT en jt),((((((Zr.zero (w:=v7) (base:=w.heap.size)).ext e).updT E f).ext fs).updT ei fm).updT en jt),(aO ny G),(aE (by decide:ln 0≤0) (by decide)),(fun c hc=>absurd hc (by simp))⟩,F⟩
      ·refine a6 (aA G G G false (cB (h:=ae)) (mv 1 G (a1 (aN G (a7 ?_)))))
       by_cases am:k=6
       ·refine a6 (aA G G G true (dD am) (mv 1 G (a1 (aY G (a6 (pf U 1 G (lo aB ((p.ext (M.t e)).vN f) (O sa Aa na ca) G G G ?_)))))))
        have oi:ln ((Int.natAbs x:Int))≤1048576:=(by rw [kT];exact Lx)
        refine cl (vs:= [J sa Aa na ca]) o (wK o.size (hx.ext o) (aO la G)) G (by kernel_rfl) fun _ _ ma fp D=>?_
        obtain⟨dr,dt,dd,bv,rfl,ll⟩:=ma
        refine pf V 0 G ?_
        have ey:=(L.ext fp)
        refine so aB ey [.bool dr,i9 dt dd bv,F0,S0,I0,I0,I0,.string ⟨#[]⟩,I0] D r G G G G fun _ ki fw q=>(aS (bG (aC (a7 (sr (pf U 0 G (aL G G (aP (fun _=>by kernel_rfl) ((((p.ext (M.t e)).vN f).ext fp).vN fw) G) (aA G G G false (eF) (a1 (aN G (aW (aC (a7 ?_)))))))))))))
        refine a6 (lo bD ki [.bool dr,i9 dt dd bv,F0,S0,I0,I0,I0,.string ⟨#[]⟩,I0] G G G ?_)
        have dy:=((((W.ext e).vN f).ext fp).vN fw)
        refine so bD dy [.bool dr,i9 dt dd bv,F0,S0,I0,I0,I0,.string ⟨#[]⟩,I0] q I G G G G fun _ kp jl F=>(a1 (aU (aT [.agg #[.bool dr,i9 dt dd bv,F0,S0,I0,I0,I0,.string ⟨#[]⟩,I0]] G ⟨⟨_,rfl,bA bD kp [.bool dr,i9 dt dd bv,F0,S0,I0,I0,I0,.string ⟨#[]⟩,I0] G (bq G) rfl⟩,up⟩ ?_)))
        have hs:cP k x y z nn mm bs zs ys n1 n2=⟨(Int.natAbs x:Int),0,0,0,0,[],0⟩:=by unfold cP;rw [if_neg H,if_neg X,if_neg Y,if_neg Z,if_neg aa,if_neg ae,if_pos am]
        exact⟨_,rfl,AnsR.of hs ⟨_,_,_,_,_,_,_,_,rfl,((ll.updT ey fw).updT dy jl),((((((Zr.zero (w:=v7) (base:=w.heap.size)).ext e).updT E f).ext fp).updT ey fw).updT dy jl),(aO oi G),(aE (by decide:ln 0≤0) (by decide)),(fun c hc=>absurd hc (by simp))⟩,F⟩
       ·refine a6 (aA G G G false (cB (h:=am)) (mv 1 G (a1 (aN G (a7 ?_)))))
        by_cases av:k=7
        ·refine a6 (aA G G G true (dD av) (mv 1 G (a1 (aY G (a6 (pf U 1 G (lo aB ((p.ext (M.t e)).vN f) (O sa Aa na ca) G G G (pf U 3 G (lo aB ((p.ext (M.t e)).vN f) (O sb Ab nb cb) G G G ?_)))))))))
         have ne:ln (x+y)≤1048577:=aE (dZ Lx Ly) (by decide)
         refine cl (vs:= [J sa Aa na ca,J sb Ab nb cb]) o (lY o.size (hx.ext o) (aO la G) (hy.ext o) (aO lb G)) G (by kernel_rfl) fun _ _ lu fo D=>?_
         obtain⟨cf,bi,ce,df,rfl,nj⟩:=lu
         refine pf V 0 G ?_
         have fb:=(L.ext fo)
         refine so aB fb [.bool cf,i9 bi ce df,F0,S0,I0,I0,I0,.string ⟨#[]⟩,I0] D r G G G G fun _ ke fx q=>(aS (bG (aC (a7 (sr (pf U 0 G (aL G G (aP (fun _=>by kernel_rfl) ((((p.ext (M.t e)).vN f).ext fo).vN fx) G) (aA G G G false (eF) (a1 (aN G (aW (aC (a7 ?_)))))))))))))
         refine a6 (lo bD ke [.bool cf,i9 bi ce df,F0,S0,I0,I0,I0,.string ⟨#[]⟩,I0] G G G ?_)
         have dz:=((((W.ext e).vN f).ext fo).vN fx)
         refine so bD dz [.bool cf,i9 bi ce df,F0,S0,I0,I0,I0,.string ⟨#[]⟩,I0] q I G G G G fun _ kb jq F=>(a1 (aU (aT [.agg #[.bool cf,i9 bi ce df,F0,S0,I0,I0,I0,.string ⟨#[]⟩,I0]] G ⟨⟨_,rfl,bA bD kb [.bool cf,i9 bi ce df,F0,S0,I0,I0,I0,.string ⟨#[]⟩,I0] G (bq G) rfl⟩,up⟩ ?_)))
         have hs:cP k x y z nn mm bs zs ys n1 n2=⟨x+y,0,0,0,0,[],0⟩:=by unfold cP;rw [if_neg H,if_neg X,if_neg Y,if_neg Z,if_neg aa,if_neg ae,if_neg am,if_pos av]
         exact⟨_,rfl,AnsR.of hs ⟨_,_,_,_,_,_,_,_,rfl,((nj.updT fb fx).updT dz jq),((((((Zr.zero (w:=v7) (base:=w.heap.size)).ext e).updT E f).ext fo).updT fb fx).updT dz jq),(aO ne G),(aE (by decide:ln 0≤0) (by decide)),(fun c hc=>absurd hc (by simp))⟩,F⟩
        ·refine a6 (aA G G G false (cB (h:=av)) (mv 1 G (a1 (aN G (a7 ?_)))))
         by_cases az:k=8
         ·refine a6 (aA G G G true (dD az) (mv 1 G (a1 (aY G (a6 (pf U 1 G (lo aB ((p.ext (M.t e)).vN f) (O sa Aa na ca) G G G (pf U 3 G (lo aB ((p.ext (M.t e)).vN f) (O sb Ab nb cb) G G G ?_)))))))))
          have lk:ln (x-y)≤1048577:=aE (hZ Lx Ly) (by decide)
          refine cl (vs:= [J sa Aa na ca,J sb Ab nb cb]) o (wH o.size (hx.ext o) (aO la G) (hy.ext o) (aO lb G)) G (by kernel_rfl) fun _ _ nz ft D=>?_
          obtain⟨ct,dg,bt,co,rfl,mj⟩:=nz
          refine pf V 0 G ?_
          have ee:=(L.ext ft)
          refine so aB ee [.bool ct,i9 dg bt co,F0,S0,I0,I0,I0,.string ⟨#[]⟩,I0] D r G G G G fun _ ku fk q=>(aS (bG (aC (a7 (sr (pf U 0 G (aL G G (aP (fun _=>by kernel_rfl) ((((p.ext (M.t e)).vN f).ext ft).vN fk) G) (aA G G G false (eF) (a1 (aN G (aW (aC (a7 ?_)))))))))))))
          refine a6 (lo bD ku [.bool ct,i9 dg bt co,F0,S0,I0,I0,I0,.string ⟨#[]⟩,I0] G G G ?_)
          have fg:=((((W.ext e).vN f).ext ft).vN fk)
          refine so bD fg [.bool ct,i9 dg bt co,F0,S0,I0,I0,I0,.string ⟨#[]⟩,I0] q I G G G G fun _ lf jn F=>(a1 (aU (aT [.agg #[.bool ct,i9 dg bt co,F0,S0,I0,I0,I0,.string ⟨#[]⟩,I0]] G ⟨⟨_,rfl,bA bD lf [.bool ct,i9 dg bt co,F0,S0,I0,I0,I0,.string ⟨#[]⟩,I0] G (bq G) rfl⟩,up⟩ ?_)))
          have hs:cP k x y z nn mm bs zs ys n1 n2=⟨x-y,0,0,0,0,[],0⟩:=by unfold cP;rw [if_neg H,if_neg X,if_neg Y,if_neg Z,if_neg aa,if_neg ae,if_neg am,if_neg av,if_pos az]
          exact⟨_,rfl,AnsR.of hs ⟨_,_,_,_,_,_,_,_,rfl,((mj.updT ee fk).updT fg jn),((((((Zr.zero (w:=v7) (base:=w.heap.size)).ext e).updT E f).ext ft).updT ee fk).updT fg jn),(aO lk G),(aE (by decide:ln 0≤0) (by decide)),(fun c hc=>absurd hc (by simp))⟩,F⟩
         ·refine a6 (aA G G G false (cB (h:=az)) (mv 1 G (a1 (aN G (a7 ?_)))))
          by_cases bo:k=9
          ·refine a6 (aA G G G true (dD bo) (mv 1 G (a1 (aY G (a6 (pf U 1 G (lo aB ((p.ext (M.t e)).vN f) (O sa Aa na ca) G G G (pf U 3 G (lo aB ((p.ext (M.t e)).vN f) (O sb Ab nb cb) G G G ?_)))))))))
           have lz:ln (x*y)≤2097152:=aE (lA Lx Ly) (by decide)
           refine cl (vs:= [J sa Aa na ca,J sb Ab nb cb]) o (ID o.size (hx.ext o) (aO la G) (hy.ext o) (aO lb G)) G (by kernel_rfl) fun _ _ om fv D=>?_
           obtain⟨bg,cj,ci,bm,rfl,nx⟩:=om
           refine pf V 0 G ?_
           have dw:=(L.ext fv)
           refine so aB dw [.bool bg,i9 cj ci bm,F0,S0,I0,I0,I0,.string ⟨#[]⟩,I0] D r G G G G fun _ kc gf q=>(aS (bG (aC (a7 (sr (pf U 0 G (aL G G (aP (fun _=>by kernel_rfl) ((((p.ext (M.t e)).vN f).ext fv).vN gf) G) (aA G G G false (eF) (a1 (aN G (aW (aC (a7 ?_)))))))))))))
           refine a6 (lo bD kc [.bool bg,i9 cj ci bm,F0,S0,I0,I0,I0,.string ⟨#[]⟩,I0] G G G ?_)
           have fe:=((((W.ext e).vN f).ext fv).vN gf)
           refine so bD fe [.bool bg,i9 cj ci bm,F0,S0,I0,I0,I0,.string ⟨#[]⟩,I0] q I G G G G fun _ kd ji F=>(a1 (aU (aT [.agg #[.bool bg,i9 cj ci bm,F0,S0,I0,I0,I0,.string ⟨#[]⟩,I0]] G ⟨⟨_,rfl,bA bD kd [.bool bg,i9 cj ci bm,F0,S0,I0,I0,I0,.string ⟨#[]⟩,I0] G (bq G) rfl⟩,up⟩ ?_)))
           have hs:cP k x y z nn mm bs zs ys n1 n2=⟨x*y,0,0,0,0,[],0⟩:=by unfold cP;rw [if_neg H,if_neg X,if_neg Y,if_neg Z,if_neg aa,if_neg ae,if_neg am,if_neg av,if_neg az,if_pos bo]
           exact⟨_,rfl,AnsR.of hs ⟨_,_,_,_,_,_,_,_,rfl,((nx.updT dw gf).updT fe ji),((((((Zr.zero (w:=v7) (base:=w.heap.size)).ext e).updT E f).ext fv).updT dw gf).updT fe ji),(aO lz G),(aE (by decide:ln 0≤0) (by decide)),(fun c hc=>absurd hc (by simp))⟩,F⟩
          ·refine a6 (aA G G G false (cB (h:=bo)) (mv 1 G (a1 (aN G (a7 ?_)))))
           by_cases ah:k=10
           ·refine a6 (aA G G G true (dD ah) (mv 1 G (a1 (aY G (a6 (pf U 1 G (lo aB ((p.ext (M.t e)).vN f) (O sa Aa na ca) G G G (pf U 3 G (lo aB ((p.ext (M.t e)).vN f) (O sb Ab nb cb) G G G (pf U 5 G (lo aB ((p.ext (M.t e)).vN f) (O sd Ad nd cd) G G G ?_)))))))))))
            have lg:ln (x*y+z)≤2097153:=aE (dZ (lA Lx Ly) Lz) (by decide)
            refine cl (vs:= [J sa Aa na ca,J sb Ab nb cb,J sd Ad nd cd]) o (IC o.size (hx.ext o) (aO la G) (hy.ext o) (aO lb G) (hz.ext o) (aO ld G)) G (by kernel_rfl) fun _ _ lm fy D=>?_
            obtain⟨bw,cg,bh,cv,rfl,md⟩:=lm
            refine pf V 0 G ?_
            have em:=(L.ext fy)
            refine so aB em [.bool bw,i9 cg bh cv,F0,S0,I0,I0,I0,.string ⟨#[]⟩,I0] D r G G G G fun _ ko fi q=>(aS (bG (aC (a7 (sr (pf U 0 G (aL G G (aP (fun _=>by kernel_rfl) ((((p.ext (M.t e)).vN f).ext fy).vN fi) G) (aA G G G false (eF) (a1 (aN G (aW (aC (a7 ?_)))))))))))))
            refine a6 (lo bD ko [.bool bw,i9 cg bh cv,F0,S0,I0,I0,I0,.string ⟨#[]⟩,I0] G G G ?_)
            have fa:=((((W.ext e).vN f).ext fy).vN fi)
            refine so bD fa [.bool bw,i9 cg bh cv,F0,S0,I0,I0,I0,.string ⟨#[]⟩,I0] q I G G G G fun _ kq jp F=>(a1 (aU (aT [.agg #[.bool bw,i9 cg bh cv,F0,S0,I0,I0,I0,.string ⟨#[]⟩,I0]] G ⟨⟨_,rfl,bA bD kq [.bool bw,i9 cg bh cv,F0,S0,I0,I0,I0,.string ⟨#[]⟩,I0] G (bq G) rfl⟩,up⟩ ?_)))
            have hs:cP k x y z nn mm bs zs ys n1 n2=⟨x*y+z,0,0,0,0,[],0⟩:=by unfold cP;rw [if_neg H,if_neg X,if_neg Y,if_neg Z,if_neg aa,if_neg ae,if_neg am,if_neg av,if_neg az,if_neg bo,if_pos ah]
            exact⟨_,rfl,AnsR.of hs ⟨_,_,_,_,_,_,_,_,rfl,((md.updT em fi).updT fa jp),((((((Zr.zero (w:=v7) (base:=w.heap.size)).ext e).updT E f).ext fy).updT em fi).updT fa jp),(aO lg G),(aE (by decide:ln 0≤0) (by decide)),(fun c hc=>absurd hc (by simp))⟩,F⟩
           ·refine a6 (aA G G G false (cB (h:=ah)) (mv 1 G (a1 (aN G (a7 ?_)))))
            by_cases aw:k=11
            ·refine a6 (aA G G G true (dD aw) (mv 1 G (a1 (aY G (a6 (pf U 11 G (aL G G (aP (fun _=>by kernel_rfl) ((p.ext (M.t e)).vN f) G) ?_)))))))
             have nl:ln (gK ys)≤2097152:=(by have h:=vT jh n2;rw [List.take_of_length_le (by rw [hl2.len];exact aX _)] at h;omega)
             refine cl (vs:= [i9 C n2 c2]) o (TJ o.size (hl2.ext o) hn2 (fun i=>aE (hmb2 i) (by decide))) G (by kernel_rfl) fun _ _ ml gi D=>?_
             obtain⟨cm,cx,ch,de,rfl,mu⟩:=ml
             refine pf V 0 G ?_
             have ef:=(L.ext gi)
             refine so aB ef [.bool cm,i9 cx ch de,F0,S0,I0,I0,I0,.string ⟨#[]⟩,I0] D r G G G G fun _ kv ge q=>(aS (bG (aC (a7 (sr (pf U 0 G (aL G G (aP (fun _=>by kernel_rfl) ((((p.ext (M.t e)).vN f).ext gi).vN ge) G) (aA G G G false (eF) (a1 (aN G (aW (aC (a7 ?_)))))))))))))
             refine a6 (lo bD kv [.bool cm,i9 cx ch de,F0,S0,I0,I0,I0,.string ⟨#[]⟩,I0] G G G ?_)
             have dx:=((((W.ext e).vN f).ext gi).vN ge)
             refine so bD dx [.bool cm,i9 cx ch de,F0,S0,I0,I0,I0,.string ⟨#[]⟩,I0] q I G G G G fun _ kj jo F=>(a1 (aU (aT [.agg #[.bool cm,i9 cx ch de,F0,S0,I0,I0,I0,.string ⟨#[]⟩,I0]] G ⟨⟨_,rfl,bA bD kj [.bool cm,i9 cx ch de,F0,S0,I0,I0,I0,.string ⟨#[]⟩,I0] G (bq G) rfl⟩,up⟩ ?_)))
             have hs:cP k x y z nn mm bs zs ys n1 n2=⟨gK ys,0,0,0,0,[],0⟩:=by unfold cP;rw [if_neg H,if_neg X,if_neg Y,if_neg Z,if_neg aa,if_neg ae,if_neg am,if_neg av,if_neg az,if_neg bo,if_neg ah,if_pos aw]
             exact⟨_,rfl,AnsR.of hs ⟨_,_,_,_,_,_,_,_,rfl,((mu.updT ef ge).updT dx jo),((((((Zr.zero (w:=v7) (base:=w.heap.size)).ext e).updT E f).ext gi).updT ef ge).updT dx jo),(aO nl G),(aE (by decide:ln 0≤0) (by decide)),(fun c hc=>absurd hc (by simp))⟩,F⟩
            ·refine a6 (aA G G G false (cB (h:=aw)) (mv 1 G (a1 (aN G (a7 ?_)))))
             by_cases dl:k=12
             ·refine a6 (aA G G G true (dD dl) (mv 1 G (a1 (aY G (a6 (pf U 10 G (aL G G (aP (fun _=>by kernel_rfl) ((p.ext (M.t e)).vN f) G) (pf U 11 G (aL G G (aP (fun _=>by kernel_rfl) ((p.ext (M.t e)).vN f) G) ?_)))))))))
              have me:ln (vD zs ys n1 n2)≤3145728:=(by have h:=GH (n:=n1) (m:=n2) mt jh;omega)
              refine cl (vs:= [i9 A n1 c1,i9 C n2 c2]) o (S7 o.size (hl.ext o) hn1 hmb (hl2.ext o) hmb2) G (by kernel_rfl) fun _ _ mz fj D=>?_
              obtain⟨_,_,rfl,⟨ao,au,aq,ar,rfl,mi⟩,rfl⟩:=mz
              refine mv 1 G (pu (v:= J ao au aq ar) G (pu (v:= a9 (eD n1 n2)) G (pf V 0 G ?_)))
              have ej:=(L.ext fj)
              refine so aB ej [.bool ao,i9 au aq ar,F0,S0,I0,I0,I0,.string ⟨#[]⟩,I0] D r G G G G fun _ ep fq q=>(pf V 8 G (d6 G G G (fun _=>by kernel_rfl) G ep (bq G) G [.bool ao,i9 au aq ar,F0,S0,I0,I0,I0,.string ⟨#[]⟩,a9 (eD n1 n2)] G fun _ kk da _=>?_))
              have F:=da.ext q r
              refine aS (bG (aC (a7 (sr (pf U 0 G (aL G G (aP (fun _=>by kernel_rfl) (((((p.ext (M.t e)).vN f).ext fj).vN fq).vN da) G) (aA G G G false (eF) (a1 (aN G (aW (aC (sr (lo bD kk [.bool ao,i9 au aq ar,F0,S0,I0,I0,I0,.string ⟨#[]⟩,a9 (eD n1 n2)] G G G ?_)))))))))))))
              have ez:=(((((W.ext e).vN f).ext fj).vN fq).vN da)
              refine so bD ez [.bool ao,i9 au aq ar,F0,S0,I0,I0,I0,.string ⟨#[]⟩,a9 (eD n1 n2)] F I G G G G fun _ jx jj ba=>(a1 (aU (aT [.agg #[.bool ao,i9 au aq ar,F0,S0,I0,I0,I0,.string ⟨#[]⟩,a9 (eD n1 n2)]] G ⟨⟨_,rfl,bA bD jx [.bool ao,i9 au aq ar,F0,S0,I0,I0,I0,.string ⟨#[]⟩,a9 (eD n1 n2)] G (bq G) rfl⟩,up⟩ ?_)))
              have hs:cP k x y z nn mm bs zs ys n1 n2=⟨vD zs ys n1 n2,0,0,0,0,[],eD n1 n2⟩:=by unfold cP;rw [if_neg H,if_neg X,if_neg Y,if_neg Z,if_neg aa,if_neg ae,if_neg am,if_neg av,if_neg az,if_neg bo,if_neg ah,if_neg aw,if_pos dl]
              exact⟨_,rfl,AnsR.of hs ⟨_,_,_,_,_,_,_,_,rfl,(((mi.updT ej fq).updT ep da).updT ez jj),(((((((Zr.zero (w:=v7) (base:=w.heap.size)).ext e).updT E f).ext fj).updT ej fq).updT ep da).updT ez jj),(aO me G),(aE (by decide:ln 0≤0) (by decide)),(fun c hc=>absurd hc (by simp))⟩,ba⟩
             ·refine a6 (aA G G G false (cB (h:=dl)) (mv 1 G (a1 (aN G (a7 ?_)))))
              by_cases gg:k=13
              ·refine a6 (aA G G G true (dD gg) (mv 1 G (a1 (aY G (a6 (pf U 1 G (lo aB ((p.ext (M.t e)).vN f) (O sa Aa na ca) G G G (pf U 7 G (aL G G (aP (fun _=>by kernel_rfl) ((p.ext (M.t e)).vN f) G) ?_)))))))))
               have mr:ln (vP x nn)≤268435457:=GG Lx
               refine cl (vs:= [J sa Aa na ca,a9 nn]) o (S4 o.size (hx.ext o) (aO la G)) G (by kernel_rfl) fun _ _ oa fz D=>?_
               obtain⟨_,_,rfl,⟨ai,ag,ak,aj,rfl,mo⟩,rfl⟩:=oa
               refine mv 1 G (pu (v:= J ai ag ak aj) G (pu (v:= a9 (eP nn)) G (pf V 0 G ?_)))
               have fc:=(L.ext fz)
               refine so aB fc [.bool ai,i9 ag ak aj,F0,S0,I0,I0,I0,.string ⟨#[]⟩,I0] D r G G G G fun _ ea fh q=>(pf V 8 G (d6 G G G (fun _=>by kernel_rfl) G ea (bq G) G [.bool ai,i9 ag ak aj,F0,S0,I0,I0,I0,.string ⟨#[]⟩,a9 (eP nn)] G fun _ kf ck _=>?_))
               have F:=ck.ext q r
               refine aS (bG (aC (a7 (sr (pf U 0 G (aL G G (aP (fun _=>by kernel_rfl) (((((p.ext (M.t e)).vN f).ext fz).vN fh).vN ck) G) (aA G G G false (eF) (a1 (aN G (aW (aC (sr (lo bD kf [.bool ai,i9 ag ak aj,F0,S0,I0,I0,I0,.string ⟨#[]⟩,a9 (eP nn)] G G G ?_)))))))))))))
               have du:=(((((W.ext e).vN f).ext fz).vN fh).vN ck)
               refine so bD du [.bool ai,i9 ag ak aj,F0,S0,I0,I0,I0,.string ⟨#[]⟩,a9 (eP nn)] F I G G G G fun _ kw jk ba=>(a1 (aU (aT [.agg #[.bool ai,i9 ag ak aj,F0,S0,I0,I0,I0,.string ⟨#[]⟩,a9 (eP nn)]] G ⟨⟨_,rfl,bA bD kw [.bool ai,i9 ag ak aj,F0,S0,I0,I0,I0,.string ⟨#[]⟩,a9 (eP nn)] G (bq G) rfl⟩,up⟩ ?_)))
               have hs:cP k x y z nn mm bs zs ys n1 n2=⟨vP x nn,0,0,0,0,[],eP nn⟩:=by unfold cP;rw [if_neg H,if_neg X,if_neg Y,if_neg Z,if_neg aa,if_neg ae,if_neg am,if_neg av,if_neg az,if_neg bo,if_neg ah,if_neg aw,if_neg dl,if_pos gg]
               exact⟨_,rfl,AnsR.of hs ⟨_,_,_,_,_,_,_,_,rfl,(((mo.updT fc fh).updT ea ck).updT du jk),(((((((Zr.zero (w:=v7) (base:=w.heap.size)).ext e).updT E f).ext fz).updT fc fh).updT ea ck).updT du jk),(aO mr G),(aE (by decide:ln 0≤0) (by decide)),(fun c hc=>absurd hc (by simp))⟩,ba⟩
              ·refine a6 (aA G G G false (cB (h:=gg)) (mv 1 G (a1 (aN G (aW (bG (aC (a7 (sr (pf U 0 G (aL G G (aP (fun _=>by kernel_rfl) ((p.ext (M.t e)).vN f) G) (aA G G G false (eF) (aS ?_)))))))))))))
               refine aC (aN G (aW (aC (sr (lo bD L [F0,S0,F0,S0,I0,I0,I0,.string ⟨#[]⟩,I0] G G G ?_)))))
               have eg:=((W.ext e).vN f)
               refine so bD eg [F0,S0,F0,S0,I0,I0,I0,.string ⟨#[]⟩,I0] o I G G G G fun _ jv jr D=>(a1 (aU (aT [.agg #[F0,S0,F0,S0,I0,I0,I0,.string ⟨#[]⟩,I0]] G ⟨⟨_,rfl,bA bD jv [F0,S0,F0,S0,I0,I0,I0,.string ⟨#[]⟩,I0] G (bq G) rfl⟩,up⟩ ?_)))
               have hs:cP k x y z nn mm bs zs ys n1 n2=⟨0,0,0,0,0,[],0⟩:=by unfold cP;rw [if_neg H,if_neg X,if_neg Y,if_neg Z,if_neg aa,if_neg ae,if_neg am,if_neg av,if_neg az,if_neg bo,if_neg ah,if_neg aw,if_neg dl,if_neg gg]
               exact⟨_,rfl,AnsR.of hs ⟨_,_,_,_,_,_,_,_,rfl,((((Zr.zero (w:=v7) (base:=w.heap.size)).ext e).updT E f).updT eg jr),((((Zr.zero (w:=v7) (base:=w.heap.size)).ext e).updT E f).updT eg jr),(aE (by decide:ln 0≤0) (by decide)),(aE (by decide:ln 0≤0) (by decide)),(fun c hc=>absurd hc (by simp))⟩,D⟩
theorem I7 (hb:b≤w.heap.size)(h:Op5 w k x y z nn mm bs zs ys n1 n2 v)(hn1:n1≤1048576)(hn2:n2≤1048576)(hbs:∀b,b∈bs→b<256)(hlen:bs.length≤1048576)(hm1: -9223372036854775808≤mm)(hm2:mm≤9223372036854775807):aQ aH 9 #[v] w (Gv w (AnsR b (cP k x y z nn mm bs zs ys n1 n2))):=by
 obtain⟨sa,Aa,na,ca,sb,Ab,nb,cb,sd,Ad,nd,cd,A,_,ms,C,_,_,rfl,h1,h2,p,D,r,q,o,E,f,e⟩:=h
 exact (TE h1 h2 p D r q o E f e hn1 hn2 hbs hlen hm1 hm2).mono (Gv.imp (AnsR.imp hb))
theorem DX (A:Option a8)(c k:Nat):Value.slice (if c=0 then A else A.map (·.add (0*2))) (k-0) (c-0)= i9 A k c:=by
 have h:=sJ A c k
 rwa [Nat.zero_mul] at h⊢
theorem RN {AK AL:Option a8}{ys ds:List Nat}{σ τ:Nat→Bool}{ω υ:Nat→List Nat}(hx:Rd w Aa xs.length ca xs)(la:xs.length≤1048576)(hy:Rd w Ab ys.length cb ys)(lb:ys.length≤1048576)(hz:Rd w Ad ds.length cd ds)(ld:ds.length≤1048576)(hl1:Zw w AK n1 c1 σ ω)(hK1:∀i,i<n1→(ω i).length≤1048576)(hl2:Zw w AL n2 c2 τ υ)(hK2:∀i,i<n2→(υ i).length≤1048576)(hS:Signs w)(hn1:n1≤1048576)(hn2:n2≤1048576)(hbs:∀b,b∈bs→b<256)(hlen:bs.length≤1048576)(hm1: -9223372036854775808≤mm)(hm2:mm≤9223372036854775807):aQ aH 3 #[.agg #[a9 k,.bool sa,i9 Aa xs.length ca,.bool sb,i9 Ab ys.length cb,.bool sd,i9 Ad ds.length cd,a9 nn,a9 mm,.string (aM bs),i9 AK n1 c1,i9 AL n2 c2]] w (Gv w (Is (no))):=by
 obtain⟨S1,pr⟩:∃S,cP k (sg sa (nv (xs))) (sg sb (nv (ys))) (sg sd (nv (ds))) nn mm bs (gY n1 σ ω) (gY n2 τ υ) n1 n2=S:=⟨_,rfl⟩
 obtain⟨S2,tw⟩:∃S,cP k (sg sa (nv (dI xs.length xs))) (sg sb (nv (dI ys.length ys))) (sg sd (nv (dI ds.length ds))) nn mm bs (gY n1 σ (tU n1 ω)) (gY n2 τ (tU n2 υ)) n1 n2=S:=⟨_,rfl⟩
 have ul:Op5 w k (sg sa (nv xs)) (sg sb (nv ys)) (sg sd (nv ds)) nn mm bs (gY n1 σ ω) (gY n2 τ υ) n1 n2 (.agg #[a9 k,.bool sa,i9 Aa xs.length ca,.bool sb,i9 Ab ys.length cb,.bool sd,i9 Ad ds.length cd,a9 nn,a9 mm,.string (aM bs),i9 AK n1 c1,i9 AL n2 c2]):=⟨_,_,_,_,_,_,_,_,_,_,_,_,_,_,_,_,_,_,rfl,⟨xs,hx,rfl⟩,la,⟨ys,hy,rfl⟩,lb,⟨ds,hz,rfl⟩,ld,hl1.zl,lW hK1,hl2.zl,lW hK2⟩
 have hwx:=hx.wf
 have kr:=hy.wf
 have jo:=hz.wf
 refine bL Tryz.func3 G (n:=232) G (bq G) (args:= [.agg #[a9 k,.bool sa,i9 Aa xs.length ca,.bool sb,i9 Ab ys.length cb,.bool sd,i9 Ad ds.length cd,a9 nn,a9 mm,.string (aM bs),i9 AK n1 c1,i9 AL n2 c2]]) (bF [(0,.agg #[a9 k,.bool sa,i9 Aa xs.length ca,.bool sb,i9 Ab ys.length cb,.bool sd,i9 Ad ds.length cd,a9 nn,a9 mm,.string (aM bs),i9 AK n1 c1,i9 AL n2 c2])] ⟨rfl,up⟩ (sr (l7 G G (vs:= [a9 k,.bool sa,i9 Aa xs.length ca,.bool sb,i9 Ab ys.length cb,.bool sd,i9 Ad ds.length cd,a9 nn,a9 mm,.string (aM bs),i9 AK n1 c1,i9 AL n2 c2]) G fun g1 _ nb=>?_)))
 have gw_g1:w.heap.size≤g1:=by rw [←nb.at_];exact aX _
 have du:=nb.bk
 have xk:w.heap.size≤g1:=by rw [←nb.at_];exact (Ext.refl w).size
 have e3:=nb.ext
 clear nb
 have dh:=(Ext.refl w).trans e3
 refine mv 1 G (a1 (a7 (sr (cl (vs:= []) dh (UD (hS.ext dh)) G (by kernel_rfl) fun _ _ r8 e7 je=>?_))))
 obtain rfl:=r8
 refine pu (v:= t9) G (a1 (aN G (aW (aC (sr (lo m7 (du.ext e7) [a9 k,.bool sa,i9 Aa xs.length ca,.bool sb,i9 Ab ys.length cb,.bool sd,i9 Ad ds.length cd,a9 nn,a9 mm,.string (aM bs),i9 AK n1 c1,i9 AL n2 c2] G G G (cl (vs:= [.agg #[a9 k,.bool sa,i9 Aa xs.length ca,.bool sb,i9 Ab ys.length cb,.bool sd,i9 Ad ds.length cd,a9 nn,a9 mm,.string (aM bs),i9 AK n1 c1,i9 AL n2 c2]]) je (IK (ul.ext je) hn1 hn2) G (by kernel_rfl) fun ua _ vr ee iw=>(cl (vs:= [ua]) iw (I7 iw.size vr hn1 hn2 hbs hlen hm1 hm2) G (by kernel_rfl) fun _ uv uf dw kq=>?_))))))))
 rw [pr] at uf
 obtain⟨ia,ie,iu,io,ir,ij,go,gy,rfl,kf,kc,kp,ke,ko⟩:=uf
 refine jG G (z:= .agg #[F0,S0,F0,S0,I0,I0,I0,.string ⟨#[]⟩,I0]) (vs:= [F0,S0,F0,S0,I0,I0,I0,.string ⟨#[]⟩,I0]) (fun _=>by kernel_rfl) G fun jj _ nb=>?_
 have gw_g16:uv.heap.size≤jj:=by rw [←nb.at_];exact aX _
 have fk:=nb.bk
 have uq:w.heap.size≤jj:=by rw [←nb.at_];exact kq.size
 have xf:g1<jj:=by rw [←nb.at_];exact (du.ext (e7.t (ee.t dw))).lt
 have cv:=nb.ext
 clear nb
 have mi:=kq.trans cv
 refine so bD fk [.bool ia,i9 ie iu io,.bool ir,i9 ij go gy,a9 S1.V,a9 S1.P,a9 S1.Q,.string (aM S1.S),a9 S1.E] mi uq G G G G fun ux ki dd lf=>(a1 (sr (pf g1 0 G (aL G G (aP (fun _=>by kernel_rfl) ((du.ext (e7.t (ee.t (dw.t cv)))).vN dd) G) (pf g1 7 G (aL G G (aP (fun _=>by kernel_rfl) ((du.ext (e7.t (ee.t (dw.t cv)))).vN dd) G) (pf g1 8 G (aL G G (aP (fun _=>by kernel_rfl) ((du.ext (e7.t (ee.t (dw.t cv)))).vN dd) G) (pf g1 9 G (aL G G (aP (fun _=>by kernel_rfl) ((du.ext (e7.t (ee.t (dw.t cv)))).vN dd) G) (pu (v:= .agg #[a9 k,F0,S0,F0,S0,F0,S0,a9 nn,a9 mm,.string (aM bs),S0,S0]) G (jG G (z:= .agg #[I0,F0,S0,F0,S0,F0,S0,I0,I0,.string ⟨#[]⟩,S0,S0]) (vs:= [I0,F0,S0,F0,S0,F0,S0,I0,I0,.string ⟨#[]⟩,S0,S0]) (fun _=>by kernel_rfl) G fun cg _ nb=>?_))))))))))))
 have gw_g27:ux.heap.size≤cg:=by rw [←nb.at_];exact aX _
 have fi:=nb.bk
 have gf:w.heap.size≤cg:=by rw [←nb.at_];exact lf.size
 have xi:jj<cg:=by rw [←nb.at_];exact ki.lt
 have de:=nb.ext
 clear nb
 have px:=lf.trans de
 refine so m7 fi [a9 k,F0,S0,F0,S0,F0,S0,a9 nn,a9 mm,.string (aM bs),S0,S0] px gf G G G G fun vo ni df lz=>(a1 (a7 ?_))
 obtain⟨lq,qj⟩:∃n,vo.heap.size=n:=⟨_,rfl⟩
 have wX:=((((kf.ext cv).updT fk dd).ext de).updT fi df).own.block
 have wY:=((((kc.ext cv).updT fk dd).ext de).updT fi df).own.block
 rw [qj] at wX wY
 refine a6 (pf g1 1 G (lo aB ((((du.ext (e7.t (ee.t (dw.t cv)))).vN dd).ext de).vN df) (O sa Aa xs.length ca) G G G (cl (vs:= [J sa Aa xs.length ca]) lz (wG (hx.ext lz) la) G (by kernel_rfl) fun _ va vq dg nh=>?_)))
 obtain⟨ga,rfl,gza,cm⟩:=vq
 refine mv 1 G (pu (v:= .agg #[.bool sa,i9 (some ⟨ga,0,none⟩) xs.length (xs.length+80)]) G (pu (v:= i9 (some ⟨ga,0,none⟩) (xs.length+80) (xs.length+80)) G (jG G (z:= .agg #[F0,S0]) (vs:= [F0,S0]) (fun _=>by kernel_rfl) G fun mw _ nb=>?_)))
 have gw_g41:va.heap.size≤mw:=by rw [←nb.at_];exact aX _
 have dr:=nb.bk
 have rz:w.heap.size≤mw:=by rw [←nb.at_];exact nh.size
 have xd:cg<mw:=by rw [←nb.at_];exact (ni.ext dg).lt
 have cj:=nb.ext
 clear nb
 have kw:=nh.trans cj
 refine so aB dr [.bool sa,i9 (some ⟨ga,0,none⟩) xs.length (xs.length+80)] kw rz G G G G fun _ ow ck gi=>(mv 1 G (a1 (sr (pf g1 3 G (lo aB ((((((du.ext (e7.t (ee.t (dw.t cv)))).vN dd).ext de).vN df).ext (dg.t cj)).vN ck) (O sb Ab ys.length cb) G G G (cl (vs:= [J sb Ab ys.length cb]) gi (wG (hy.ext gi) lb) G (by kernel_rfl) fun _ uw vk ct iz=>?_))))))
 obtain⟨gb,rfl,gzb,cu⟩:=vk
 have ww:ga<gb:=cS (((cm.ext cj).updTT dr (by decide) ck)).lt gzb
 refine mv 1 G (pu (v:= .agg #[.bool sb,i9 (some ⟨gb,0,none⟩) ys.length (ys.length+80)]) G (pu (v:= i9 (some ⟨gb,0,none⟩) (ys.length+80) (ys.length+80)) G (jG G (z:= .agg #[F0,S0]) (vs:= [F0,S0]) (fun _=>by kernel_rfl) G fun ne _ nb=>?_)))
 have gw_g55:uw.heap.size≤ne:=by rw [←nb.at_];exact aX _
 have da:=nb.bk
 have uj:w.heap.size≤ne:=by rw [←nb.at_];exact iz.size
 have xe:mw<ne:=by rw [←nb.at_];exact (ow.ext ct).lt
 have bw:=nb.ext
 clear nb
 have kx:=iz.trans bw
 refine so aB da [.bool sb,i9 (some ⟨gb,0,none⟩) ys.length (ys.length+80)] kx uj G G G G fun _ nj ce nz=>(mv 1 G (a1 (sr (pf g1 5 G (lo aB ((((((((du.ext (e7.t (ee.t (dw.t cv)))).vN dd).ext de).vN df).ext (dg.t cj)).vN ck).ext (ct.t bw)).vN ce) (O sd Ad ds.length cd) G G G (cl (vs:= [J sd Ad ds.length cd]) nz (wG (hz.ext nz) ld) G (by kernel_rfl) fun _ uy vd cf nt=>?_))))))
 obtain⟨gd,rfl,gzd,ch⟩:=vd
 have vw:gb<gd:=cS (((cu.ext bw).updTT da (by decide) ce)).lt gzd
 refine mv 1 G (pu (v:= .agg #[.bool sd,i9 (some ⟨gd,0,none⟩) ds.length (ds.length+80)]) G (pu (v:= i9 (some ⟨gd,0,none⟩) (ds.length+80) (ds.length+80)) G (jG G (z:= .agg #[F0,S0]) (vs:= [F0,S0]) (fun _=>by kernel_rfl) G fun mu _ nb=>?_)))
 have gw_g69:uy.heap.size≤mu:=by rw [←nb.at_];exact aX _
 have bi:=nb.bk
 have ud:w.heap.size≤mu:=by rw [←nb.at_];exact nt.size
 have xj:ne<mu:=by rw [←nb.at_];exact (nj.ext cf).lt
 have ba:=nb.ext
 clear nb
 have sj:=nt.trans ba
 refine so aB bi [.bool sd,i9 (some ⟨gd,0,none⟩) ds.length (ds.length+80)] sj ud G G G G fun _ oq bf sy=>(mv 1 G (a1 (sr (lo aB ((((ow.ext (ct.t bw)).vN ce).ext (cf.t ba)).vN bf) [.bool sa,i9 (some ⟨ga,0,none⟩) xs.length (xs.length+80)] G G G (pf cg 1 G ?_)))))
 have bj:=((((((ni.ext (dg.t cj)).vN ck).ext (ct.t bw)).vN ce).ext (cf.t ba)).vN bf)
 refine so aB bj [a9 k,.bool sa,i9 (some ⟨ga,0,none⟩) xs.length (xs.length+80),F0,S0,F0,S0,a9 nn,a9 mm,.string (aM bs),S0,S0] sy gf G G G G fun _ bo bd uh=>(a1 (sr (lo aB (((nj.ext (cf.t ba)).vN bf).vN bd) [.bool sb,i9 (some ⟨gb,0,none⟩) ys.length (ys.length+80)] G G G (pf cg 3 G (so aB bo [a9 k,.bool sa,i9 (some ⟨ga,0,none⟩) xs.length (xs.length+80),.bool sb,i9 (some ⟨gb,0,none⟩) ys.length (ys.length+80),F0,S0,a9 nn,a9 mm,.string (aM bs),S0,S0] uh gf G G G G fun _ bt bg tv=>(a1 (sr (lo aB ((oq.vN bd).vN bg) [.bool sd,i9 (some ⟨gd,0,none⟩) ds.length (ds.length+80)] G G G (pf cg 5 G (so aB bt [a9 k,.bool sa,i9 (some ⟨ga,0,none⟩) xs.length (xs.length+80),.bool sb,i9 (some ⟨gb,0,none⟩) ys.length (ys.length+80),.bool sd,i9 (some ⟨gd,0,none⟩) ds.length (ds.length+80),a9 nn,a9 mm,.string (aM bs),S0,S0] tv gf G G G G fun pm ug bh lp=>(a1 (sr (pf g1 10 G ?_)))))))))))))
 refine aL G G (aP (fun _=>by kernel_rfl) (((((((((((((du.ext (e7.t (ee.t (dw.t cv)))).vN dd).ext de).vN df).ext (dg.t cj)).vN ck).ext (ct.t bw)).vN ce).ext (cf.t ba)).vN bf).vN bd).vN bg).vN bh) G) (cl (vs:= [i9 AK n1 c1]) lp (IB (hl1.ext lp) hn1 hK1) G (by kernel_rfl) fun _ fw vt bu lj=>?_)
 obtain⟨gxK,BWK,γK,usK,wsK,rfl,ja,vu,vj,bv⟩:=vt
 refine mv 1 G (pu (v:= i9 (some ⟨gxK,0,none⟩) (n1+2) (n1+2)) G (pu (v:= i9 BWK n1 n1) G (mv 2 G (a1 (a7 ?_)))))
 have jc:∀j,j<n1→gd<γK j:=fun j hj=>cS ((((((ch.ext ba).updTT bi (by decide) bf).updTT bj (by decide) bd).updTT bo (by decide) bg).updTT bt (by decide) bh)).lt (bv.1 j hj).1
 have blK:=lp.size
 refine a6 (pf g1 11 G (aL G G (aP (fun _=>by kernel_rfl) ((((((((((((((du.ext (e7.t (ee.t (dw.t cv)))).vN dd).ext de).vN df).ext (dg.t cj)).vN ck).ext (ct.t bw)).vN ce).ext (cf.t ba)).vN bf).vN bd).vN bg).vN bh).ext bu) G) (cl (vs:= [i9 AL n2 c2]) lj (IB (hl2.ext lj) hn2 hK2) G (by kernel_rfl) fun _ _ uo av sz=>?_)))
 obtain⟨gxL,BWL,γL,usL,wsL,rfl,jm,vb,vl,bz⟩:=uo
 refine mv 1 G (pu (v:= i9 (some ⟨gxL,0,none⟩) (n2+2) (n2+2)) G (pu (v:= i9 BWL n2 n2) G (mv 2 G (a1 (a7 ?_)))))
 have tn:∀i j,i<n1→j<n2→γK i<γL j:=fun i j hi hj=>cS (bv.lt hi) (bz.1 j hj).1
 have jf:∀j,j<n2→gd<γL j:=fun j hj=>cS (((((((ch.ext ba).updTT bi (by decide) bf).updTT bj (by decide) bd).updTT bo (by decide) bg).updTT bt (by decide) bh).ext bu)).lt (bz.1 j hj).1
 have blL:=lj.size
 have uz:∀j,j<n1→γK j<fw.heap.size:=fun j hj=>bv.lt hj
 have tu:gxK<gxL:=by have h1:=(ja.own.block _ G).2;have h2:=(jm.own.block _ G).1;exact cS h1 h2
 refine a6 (mv 1 G (pf g1 10 G (aL G G (aP (fun _=>by kernel_rfl) ((((((((((((((du.ext (e7.t (ee.t (dw.t cv)))).vN dd).ext de).vN df).ext (dg.t cj)).vN ck).ext (ct.t bw)).vN ce).ext (cf.t ba)).vN bf).vN bd).vN bg).vN bh).ext (bu.t av)) G) (pu (v:= a9 n1) G (lT G G fQ aB.size (lo:=0) (hi:=n1) G G (by omega) (by omega) (v:= i9 (some ⟨gxK,0,none⟩) n1 (n1+2)) (DX _ _ _) (by decide) (pf cg 10 G ?_))))))
 have o:=(ug.ext (bu.t av))
 refine d6 G G G (fun _=>by kernel_rfl) G o (bq G) G [a9 k,.bool sa,i9 (some ⟨ga,0,none⟩) xs.length (xs.length+80),.bool sb,i9 (some ⟨gb,0,none⟩) ys.length (ys.length+80),.bool sd,i9 (some ⟨gd,0,none⟩) ds.length (ds.length+80),a9 nn,a9 mm,.string (aM bs),i9 (some ⟨gxK,0,none⟩) n1 (n1+2),S0] G fun _ f q _=>?_
 have su:=q.ext sz gf
 refine a1 (sr (mv 1 G (pf g1 11 G (aL G G (aP (fun _=>by kernel_rfl) (((((((((((((((du.ext (e7.t (ee.t (dw.t cv)))).vN dd).ext de).vN df).ext (dg.t cj)).vN ck).ext (ct.t bw)).vN ce).ext (cf.t ba)).vN bf).vN bd).vN bg).vN bh).ext (bu.t av)).vN q) G) (pu (v:= a9 n2) G (lT G G fQ aB.size (lo:=0) (hi:=n2) G G (by omega) (by omega) (v:= i9 (some ⟨gxL,0,none⟩) n2 (n2+2)) (DX _ _ _) (by decide) (pf cg 11 G (d6 G G G (fun _=>by kernel_rfl) G f (bq G) G [a9 k,.bool sa,i9 (some ⟨ga,0,none⟩) xs.length (xs.length+80),.bool sb,i9 (some ⟨gb,0,none⟩) ys.length (ys.length+80),.bool sd,i9 (some ⟨gd,0,none⟩) ds.length (ds.length+80),a9 nn,a9 mm,.string (aM bs),i9 (some ⟨gxK,0,none⟩) n1 (n1+2),i9 (some ⟨gxL,0,none⟩) n2 (n2+2)] G fun ov jp r _=>?_))))))))
 have ml:=r.ext su gf
 refine a1 (a7 ?_)
 obtain⟨hi,jx⟩:∃n,ov.heap.size=n:=⟨_,rfl⟩
 have xl:fw.heap.size≤hi:=by rw [←jx];exact (aE (aE av.size q.size) r.size)
 have xm:lq≤ga:=by rw [←qj];exact aE (aX _) gza
 have xo:gd<hi:=by rw [←jx];exact (((((((((ch.ext ba).updTT bi (by decide) bf).updTT bj (by decide) bd).updTT bo (by decide) bg).updTT bt (by decide) bh).ext (bu.t av)).updTT o (by decide) q).updTT f (by decide) r)).lt
 have lK:∀j,j<n1→γK j<hi:=fun j hj=>by rw [←jx];exact (((bv.ext av).updT o (by decide) q).updT f (by decide) r).lt hj
 have loK:∀j,j<n1→lq≤γK j:=fun j hj=>by have:=jc j hj;omega
 have lL:∀j,j<n2→γL j<hi:=fun j hj=>by rw [←jx];exact ((bz.updT o (by decide) q).updT f (by decide) r).lt hj
 have loL:∀j,j<n2→lq≤γL j:=fun j hj=>by have:=jf j hj;omega
 refine a6 (lo m7 jp [a9 k,.bool sa,i9 (some ⟨ga,0,none⟩) xs.length (xs.length+80),.bool sb,i9 (some ⟨gb,0,none⟩) ys.length (ys.length+80),.bool sd,i9 (some ⟨gd,0,none⟩) ds.length (ds.length+80),a9 nn,a9 mm,.string (aM bs),i9 (some ⟨gxK,0,none⟩) n1 (n1+2),i9 (some ⟨gxL,0,none⟩) n2 (n2+2)] G G G ?_)
 have nf:Op5 ov k (sg sa (nv (xs))) (sg sb (nv (ys))) (sg sd (nv (ds))) nn mm bs (gY n1 σ ω) (gY n2 τ υ) n1 n2 (.agg #[a9 k,.bool sa,i9 (some ⟨ga,0,none⟩) xs.length (xs.length+80),.bool sb,i9 (some ⟨gb,0,none⟩) ys.length (ys.length+80),.bool sd,i9 (some ⟨gd,0,none⟩) ds.length (ds.length+80),a9 nn,a9 mm,.string (aM bs),i9 (some ⟨gxK,0,none⟩) n1 (n1+2),i9 (some ⟨gxL,0,none⟩) n2 (n2+2)]):=⟨_,_,_,_,_,_,_,_,_,_,_,_,_,_,_,_,_,_,rfl,⟨_,jX ((((((((((((cm.ext cj).updTT dr (by decide) ck).ext (ct.t bw)).updTT da (by decide) ce).ext (cf.t ba)).updTT bi (by decide) bf).updTT bj (by decide) bd).updTT bo (by decide) bg).updTT bt (by decide) bh).ext (bu.t av)).updTT o (by decide) q).updTT f (by decide) r) G hwx (aO la G),rfl⟩,la,⟨_,jX ((((((((((cu.ext bw).updTT da (by decide) ce).ext (cf.t ba)).updTT bi (by decide) bf).updTT bj (by decide) bd).updTT bo (by decide) bg).updTT bt (by decide) bh).ext (bu.t av)).updTT o (by decide) q).updTT f (by decide) r) G kr (aO lb G),rfl⟩,lb,⟨_,jX ((((((((ch.ext ba).updTT bi (by decide) bf).updTT bj (by decide) bd).updTT bo (by decide) bg).updTT bt (by decide) bh).ext (bu.t av)).updTT o (by decide) q).updTT f (by decide) r) G jo (aO ld G),rfl⟩,ld,(nH (((ja.ext av).updT o ⟨by decide,by decide⟩ q).updT f ⟨by decide,by decide⟩ r).own ja.cz (((bv.ext av).updT o (by decide) q).updT f (by decide) r) (fun _=>rfl) (Nat.le_add_right _ 2) hK1).zl,lW hK1,(nH ((jm.updT o ⟨by decide,by decide⟩ q).updT f ⟨by decide,by decide⟩ r).own jm.cz ((bz.updT o (by decide) q).updT f (by decide) r) (fun _=>rfl) (Nat.le_add_right _ 2) hK2).zl,lW hK2⟩
 refine cl (vs:= [.agg #[a9 k,.bool sa,i9 (some ⟨ga,0,none⟩) xs.length (xs.length+80),.bool sb,i9 (some ⟨gb,0,none⟩) ys.length (ys.length+80),.bool sd,i9 (some ⟨gd,0,none⟩) ds.length (ds.length+80),a9 nn,a9 mm,.string (aM bs),i9 (some ⟨gxK,0,none⟩) n1 (n1+2),i9 (some ⟨gxL,0,none⟩) n2 (n2+2)]]) ml (B7 (aX _) nf (hS.ext ml) hn1 hn2 hbs hlen hm1 hm2) G (by kernel_rfl) fun _ oe oy Y nu=>?_
 rw [pr] at oy
 obtain⟨ey,dz,dy,en,ez,ei,dx,ea,rfl,ju,ka,jn,jq,me,qf⟩:=oy
 refine jG G (z:= .agg #[F0,S0,F0,S0,I0,I0,I0,.string ⟨#[]⟩,I0]) (vs:= [F0,S0,F0,S0,I0,I0,I0,.string ⟨#[]⟩,I0]) (fun _=>by kernel_rfl) G fun fb _ nb=>?_
 have gw_g116:oe.heap.size≤fb:=by rw [←nb.at_];exact aX _
 have E:=nb.bk
 have qp:w.heap.size≤fb:=by rw [←nb.at_];exact nu.size
 have wk:mu<fb:=by rw [←nb.at_];exact (((((((oq.vN bd).vN bg).vN bh).ext (bu.t av)).vN q).vN r).ext Y).lt
 have D:=nb.ext
 clear nb
 have sc:=nu.trans D
 refine so bD E [.bool ey,i9 dz dy en,.bool ez,i9 ei dx ea,a9 S1.V,a9 S1.P,a9 S1.Q,.string (aM S1.S),a9 S1.E] sc qp G G G G fun ou jw F ma=>(a1 (a7 ?_))
 have pX:=ju.own.block
 rw [jx] at pX
 have pY:=ka.own.block
 rw [jx] at pY
 obtain⟨m1,kd⟩:∃n,oe.heap.size=n:=⟨_,rfl⟩
 rw [kd] at pX pY
 have te:hi≤m1:=by rw [←jx,←kd];exact Y.size
 have bp:=ml.size
 refine a6 (lo m7 ((jp.ext (Y.t D)).vN F) [a9 k,.bool sa,i9 (some ⟨ga,0,none⟩) xs.length (xs.length+80),.bool sb,i9 (some ⟨gb,0,none⟩) ys.length (ys.length+80),.bool sd,i9 (some ⟨gd,0,none⟩) ds.length (ds.length+80),a9 nn,a9 mm,.string (aM bs),i9 (some ⟨gxK,0,none⟩) n1 (n1+2),i9 (some ⟨gxL,0,none⟩) n2 (n2+2)] G G G ?_)
 have my:Op5 ou k (sg sa (nv (xs))) (sg sb (nv (ys))) (sg sd (nv (ds))) nn mm bs (gY n1 σ ω) (gY n2 τ υ) n1 n2 (.agg #[a9 k,.bool sa,i9 (some ⟨ga,0,none⟩) xs.length (xs.length+80),.bool sb,i9 (some ⟨gb,0,none⟩) ys.length (ys.length+80),.bool sd,i9 (some ⟨gd,0,none⟩) ds.length (ds.length+80),a9 nn,a9 mm,.string (aM bs),i9 (some ⟨gxK,0,none⟩) n1 (n1+2),i9 (some ⟨gxL,0,none⟩) n2 (n2+2)]):=⟨_,_,_,_,_,_,_,_,_,_,_,_,_,_,_,_,_,_,rfl,⟨_,jX ((((((((((((((cm.ext cj).updTT dr (by decide) ck).ext (ct.t bw)).updTT da (by decide) ce).ext (cf.t ba)).updTT bi (by decide) bf).updTT bj (by decide) bd).updTT bo (by decide) bg).updTT bt (by decide) bh).ext (bu.t av)).updTT o (by decide) q).updTT f (by decide) r).ext (Y.t D)).updTT E (by decide) F) G hwx (aO la G),rfl⟩,la,⟨_,jX ((((((((((((cu.ext bw).updTT da (by decide) ce).ext (cf.t ba)).updTT bi (by decide) bf).updTT bj (by decide) bd).updTT bo (by decide) bg).updTT bt (by decide) bh).ext (bu.t av)).updTT o (by decide) q).updTT f (by decide) r).ext (Y.t D)).updTT E (by decide) F) G kr (aO lb G),rfl⟩,lb,⟨_,jX ((((((((((ch.ext ba).updTT bi (by decide) bf).updTT bj (by decide) bd).updTT bo (by decide) bg).updTT bt (by decide) bh).ext (bu.t av)).updTT o (by decide) q).updTT f (by decide) r).ext (Y.t D)).updTT E (by decide) F) G jo (aO ld G),rfl⟩,ld,(nH (((((ja.ext av).updT o ⟨by decide,by decide⟩ q).updT f ⟨by decide,by decide⟩ r).ext (Y.t D)).updT E ⟨by decide,by decide⟩ F).own ja.cz (((((bv.ext av).updT o (by decide) q).updT f (by decide) r).ext (Y.t D)).updT E (by decide) F) (fun _=>rfl) (Nat.le_add_right _ 2) hK1).zl,lW hK1,(nH ((((jm.updT o ⟨by decide,by decide⟩ q).updT f ⟨by decide,by decide⟩ r).ext (Y.t D)).updT E ⟨by decide,by decide⟩ F).own jm.cz ((((bz.updT o (by decide) q).updT f (by decide) r).ext (Y.t D)).updT E (by decide) F) (fun _=>rfl) (Nat.le_add_right _ 2) hK2).zl,lW hK2⟩
 refine cl (vs:= [.agg #[a9 k,.bool sa,i9 (some ⟨ga,0,none⟩) xs.length (xs.length+80),.bool sb,i9 (some ⟨gb,0,none⟩) ys.length (ys.length+80),.bool sd,i9 (some ⟨gd,0,none⟩) ds.length (ds.length+80),a9 nn,a9 mm,.string (aM bs),i9 (some ⟨gxK,0,none⟩) n1 (n1+2),i9 (some ⟨gxL,0,none⟩) n2 (n2+2)]]) ma (B7 (aX _) my (hS.ext ma) hn1 hn2 hbs hlen hm1 hm2) G (by kernel_rfl) fun _ nk oa ae pd=>?_
 rw [pr] at oa
 obtain⟨fa,eg,em,ep,ew,ej,eh,ef,rfl,jt,jy,jr,kb,lg,pq⟩:=oa
 refine jG G (z:= .agg #[F0,S0,F0,S0,I0,I0,I0,.string ⟨#[]⟩,I0]) (vs:= [F0,S0,F0,S0,I0,I0,I0,.string ⟨#[]⟩,I0]) (fun _=>by kernel_rfl) G fun fd _ nb=>?_
 have gw_g132:nk.heap.size≤fd:=by rw [←nb.at_];exact aX _
 have V:=nb.bk
 have qt:w.heap.size≤fd:=by rw [←nb.at_];exact pd.size
 have wh:fb<fd:=by rw [←nb.at_];exact (jw.ext ae).lt
 have H:=nb.ext
 clear nb
 have ut:=pd.trans H
 refine so bD V [.bool fa,i9 eg em ep,.bool ew,i9 ej eh ef,a9 S1.V,a9 S1.P,a9 S1.Q,.string (aM S1.S),a9 S1.E] ut qt G G G G fun _ lm L sn=>(a1 (a7 (a7 ?_)))
 have qX:=jt.own.block
 have qY:=jy.own.block
 have xa:m1≤ou.heap.size:=by rw [←kd];exact (aE D.size F.size)
 obtain⟨m2,lh⟩:∃n,nk.heap.size=n:=⟨_,rfl⟩
 rw [lh] at qX qY
 have wu:m1≤m2:=by rw [←kd,←lh];exact (aE (aE D.size F.size) ae.size)
 have kbq:=ma.size
 refine a6 (lo bD ((jw.ext (ae.t H)).vN L) [.bool ey,i9 dz dy en,.bool ez,i9 ei dx ea,a9 S1.V,a9 S1.P,a9 S1.Q,.string (aM S1.S),a9 S1.E] G G G (lo bD ((((((((((((((((((ki.ext de).vN df).ext (dg.t cj)).vN ck).ext (ct.t bw)).vN ce).ext (cf.t ba)).vN bf).vN bd).vN bg).vN bh).ext (bu.t av)).vN q).vN r).ext (Y.t D)).vN F).ext (ae.t H)).vN L) [.bool ia,i9 ie iu io,.bool ir,i9 ij go gy,a9 S1.V,a9 S1.P,a9 S1.Q,.string (aM S1.S),a9 S1.E] G G G (cl (vs:= [.agg #[.bool ey,i9 dz dy en,.bool ez,i9 ei dx ea,a9 S1.V,a9 S1.P,a9 S1.Q,.string (aM S1.S),a9 S1.E],.agg #[.bool ia,i9 ie iu io,.bool ir,i9 ij go gy,a9 S1.V,a9 S1.P,a9 S1.Q,.string (aM S1.S),a9 S1.E]]) sn (tE (show AnsR _ S1 _ _ from⟨_,_,_,_,_,_,_,_,rfl,((((ju.ext D).updT E F).ext (ae.t H)).updT V L),((((ka.ext D).updT E F).ext (ae.t H)).updT V L),(aO jn G),(aO jq G),me⟩) (show AnsR _ S1 _ _ from⟨_,_,_,_,_,_,_,_,rfl,((((((((((((((((((((kf.ext cv).updT fk dd).ext de).updT fi df).ext (dg.t cj)).updT dr ck).ext (ct.t bw)).updT da ce).ext (cf.t ba)).updT bi bf).updT bj bd).updT bo bg).updT bt bh).ext (bu.t av)).updT o q).updT f r).ext (Y.t D)).updT E F).ext (ae.t H)).updT V L),((((((((((((((((((((kc.ext cv).updT fk dd).ext de).updT fi df).ext (dg.t cj)).updT dr ck).ext (ct.t bw)).updT da ce).ext (cf.t ba)).updT bi bf).updT bj bd).updT bo bg).updT bt bh).ext (bu.t av)).updT o q).updT f r).ext (Y.t D)).updT E F).ext (ae.t H)).updT V L),(aO kp G),(aO ke G),ko⟩)) G (by kernel_rfl) fun _ _ ub ag tc=>?_)))
 obtain rfl:=ub
 refine pu (v:= t9) G (mv 1 G (lo bD (lm.ext ag) [.bool fa,i9 eg em ep,.bool ew,i9 ej eh ef,a9 S1.V,a9 S1.P,a9 S1.Q,.string (aM S1.S),a9 S1.E] G G G (lo bD (((((((((((((((((((ki.ext de).vN df).ext (dg.t cj)).vN ck).ext (ct.t bw)).vN ce).ext (cf.t ba)).vN bf).vN bd).vN bg).vN bh).ext (bu.t av)).vN q).vN r).ext (Y.t D)).vN F).ext (ae.t H)).vN L).ext ag) [.bool ia,i9 ie iu io,.bool ir,i9 ij go gy,a9 S1.V,a9 S1.P,a9 S1.Q,.string (aM S1.S),a9 S1.E] G G G (cl (vs:= [.agg #[.bool fa,i9 eg em ep,.bool ew,i9 ej eh ef,a9 S1.V,a9 S1.P,a9 S1.Q,.string (aM S1.S),a9 S1.E],.agg #[.bool ia,i9 ie iu io,.bool ir,i9 ij go gy,a9 S1.V,a9 S1.P,a9 S1.Q,.string (aM S1.S),a9 S1.E]]) tc (tE (show AnsR _ S1 _ _ from⟨_,_,_,_,_,_,_,_,rfl,(((jt.ext H).updT V L).ext ag),(((jy.ext H).updT V L).ext ag),(aO jr G),(aO kb G),lg⟩) (show AnsR _ S1 _ _ from⟨_,_,_,_,_,_,_,_,rfl,(((((((((((((((((((((kf.ext cv).updT fk dd).ext de).updT fi df).ext (dg.t cj)).updT dr ck).ext (ct.t bw)).updT da ce).ext (cf.t ba)).updT bi bf).updT bj bd).updT bo bg).updT bt bh).ext (bu.t av)).updT o q).updT f r).ext (Y.t D)).updT E F).ext (ae.t H)).updT V L).ext ag),(((((((((((((((((((((kc.ext cv).updT fk dd).ext de).updT fi df).ext (dg.t cj)).updT dr ck).ext (ct.t bw)).updT da ce).ext (cf.t ba)).updT bi bf).updT bj bd).updT bo bg).updT bt bh).ext (bu.t av)).updT o q).updT f r).ext (Y.t D)).updT E F).ext (ae.t H)).updT V L).ext ag),(aO kp G),(aO ke G),ko⟩)) G (by kernel_rfl) fun _ _ sf am ny=>?_))))
 obtain rfl:=sf
 refine pu (v:= t9) G (pu (v:= t9) G (a1 (aN G (aW (aC (a7 (sr (mv 1 G (pf g1 1 G (pf g1 2 G (aL G G (aP (fun _=>by kernel_rfl) (((((((((((((((((((((du.ext (e7.t (ee.t (dw.t cv)))).vN dd).ext de).vN df).ext (dg.t cj)).vN ck).ext (ct.t bw)).vN ce).ext (cf.t ba)).vN bf).vN bd).vN bg).vN bh).ext (bu.t av)).vN q).vN r).ext (Y.t D)).vN F).ext (ae.t H)).vN L).ext (ag.t am)) G) (cl (vs:= [i9 (some ⟨ga,0,none⟩) (xs.length+80) (xs.length+80),i9 Aa xs.length ca]) ny (wN (vB (((((((((((((((((cm.ext cj).updTT dr (by decide) ck).ext (ct.t bw)).updTT da (by decide) ce).ext (cf.t ba)).updTT bi (by decide) bf).updTT bj (by decide) bd).updTT bo (by decide) bg).updTT bt (by decide) bh).ext (bu.t av)).updTT o (by decide) q).updTT f (by decide) r).ext (Y.t D)).updTT E (by decide) F).ext (ae.t H)).updTT V (by decide) L).ext (ag.t am)) G hwx (aO la G)) (hx.ext ny) (aO la G)) G (by kernel_rfl) fun _ _ um aq om=>?_))))))))))))
 obtain rfl:=um
 refine pu (v:= t9) G (mv 2 G (pf g1 3 G (pf g1 4 G (aL G G (aP (fun _=>by kernel_rfl) (((((((((((((((((((((du.ext (e7.t (ee.t (dw.t cv)))).vN dd).ext de).vN df).ext (dg.t cj)).vN ck).ext (ct.t bw)).vN ce).ext (cf.t ba)).vN bf).vN bd).vN bg).vN bh).ext (bu.t av)).vN q).vN r).ext (Y.t D)).vN F).ext (ae.t H)).vN L).ext (ag.t (am.t aq))) G) (cl (vs:= [i9 (some ⟨gb,0,none⟩) (ys.length+80) (ys.length+80),i9 Ab ys.length cb]) om (wN (vB (((((((((((((((cu.ext bw).updTT da (by decide) ce).ext (cf.t ba)).updTT bi (by decide) bf).updTT bj (by decide) bd).updTT bo (by decide) bg).updTT bt (by decide) bh).ext (bu.t av)).updTT o (by decide) q).updTT f (by decide) r).ext (Y.t D)).updTT E (by decide) F).ext (ae.t H)).updTT V (by decide) L).ext (ag.t (am.t aq))) G kr (aO lb G)) (hy.ext om) (aO lb G)) G (by kernel_rfl) fun _ _ ui au ot=>?_)))))
 obtain rfl:=ui
 refine pu (v:= t9) G (pu (v:= t9) G (mv 2 G (pf g1 5 G (pf g1 6 G (aL G G (aP (fun _=>by kernel_rfl) (((((((((((((((((((((du.ext (e7.t (ee.t (dw.t cv)))).vN dd).ext de).vN df).ext (dg.t cj)).vN ck).ext (ct.t bw)).vN ce).ext (cf.t ba)).vN bf).vN bd).vN bg).vN bh).ext (bu.t av)).vN q).vN r).ext (Y.t D)).vN F).ext (ae.t H)).vN L).ext (ag.t (am.t (aq.t au)))) G) (cl (vs:= [i9 (some ⟨gd,0,none⟩) (ds.length+80) (ds.length+80),i9 Ad ds.length cd]) ot (wN (vB (((((((((((((ch.ext ba).updTT bi (by decide) bf).updTT bj (by decide) bd).updTT bo (by decide) bg).updTT bt (by decide) bh).ext (bu.t av)).updTT o (by decide) q).updTT f (by decide) r).ext (Y.t D)).updTT E (by decide) F).ext (ae.t H)).updTT V (by decide) L).ext (ag.t (am.t (aq.t au)))) G jo (aO ld G)) (hz.ext ot) (aO ld G)) G (by kernel_rfl) fun _ _ ue aw oo=>?_))))))
 obtain rfl:=ue
 refine pu (v:= t9) G (pu (v:= t9) G (a1 (aN G (aW (aC (a7 (sr (mv 2 G (pf g1 10 G (aL G G (aP (fun _=>by kernel_rfl) (((((((((((((((((((((du.ext (e7.t (ee.t (dw.t cv)))).vN dd).ext de).vN df).ext (dg.t cj)).vN ck).ext (ct.t bw)).vN ce).ext (cf.t ba)).vN bf).vN bd).vN bg).vN bh).ext (bu.t av)).vN q).vN r).ext (Y.t D)).vN F).ext (ae.t H)).vN L).ext (ag.t (am.t (aq.t (au.t aw))))) G) (cl (vs:= [i9 (some ⟨gxK,0,none⟩) (n1+2) (n1+2),i9 BWK n1 n1,i9 AK n1 c1]) oo (IM (hl1.ext oo) hn1 hK1 ((((((((ja.ext av).updT o ⟨by decide,by decide⟩ q).updT f ⟨by decide,by decide⟩ r).ext (Y.t D)).updT E ⟨by decide,by decide⟩ F).ext (ae.t H)).updT V ⟨by decide,by decide⟩ L).ext (ag.t (am.t (aq.t (au.t aw))))) ((((((((vu.ext av).updT o (by decide) q).updT f (by decide) r).ext (Y.t D)).updT E (by decide) F).ext (ae.t H)).updT V (by decide) L).ext (ag.t (am.t (aq.t (au.t aw))))) vj ((((((((bv.ext av).updT o (by decide) q).updT f (by decide) r).ext (Y.t D)).updT E (by decide) F).ext (ae.t H)).updT V (by decide) L).ext (ag.t (am.t (aq.t (au.t aw)))))) G (by kernel_rfl) fun _ _ uu bm nl=>?_)))))))))))
 obtain rfl:=uu
 refine pu (v:= t9) G (mv 3 G (pf g1 11 G (aL G G (aP (fun _=>by kernel_rfl) (((((((((((((((((((((du.ext (e7.t (ee.t (dw.t cv)))).vN dd).ext de).vN df).ext (dg.t cj)).vN ck).ext (ct.t bw)).vN ce).ext (cf.t ba)).vN bf).vN bd).vN bg).vN bh).ext (bu.t av)).vN q).vN r).ext (Y.t D)).vN F).ext (ae.t H)).vN L).ext (ag.t (am.t (aq.t (au.t (aw.t bm)))))) G) (cl (vs:= [i9 (some ⟨gxL,0,none⟩) (n2+2) (n2+2),i9 BWL n2 n2,i9 AL n2 c2]) nl (IM (hl2.ext nl) hn2 hK2 (((((((jm.updT o ⟨by decide,by decide⟩ q).updT f ⟨by decide,by decide⟩ r).ext (Y.t D)).updT E ⟨by decide,by decide⟩ F).ext (ae.t H)).updT V ⟨by decide,by decide⟩ L).ext (ag.t (am.t (aq.t (au.t (aw.t bm)))))) (((((((vb.updT o (by decide) q).updT f (by decide) r).ext (Y.t D)).updT E (by decide) F).ext (ae.t H)).updT V (by decide) L).ext (ag.t (am.t (aq.t (au.t (aw.t bm)))))) vl (((((((bz.updT o (by decide) q).updT f (by decide) r).ext (Y.t D)).updT E (by decide) F).ext (ae.t H)).updT V (by decide) L).ext (ag.t (am.t (aq.t (au.t (aw.t bm))))))) G (by kernel_rfl) fun _ gj td ci nw=>?_))))
 obtain rfl:=td
 refine pu (v:= t9) G (pu (v:= t9) G (a1 (aN G (aW (aC (a7 ?_))))))
 have mz:=(((((((((((((((((((ki.ext de).vN df).ext (dg.t cj)).vN ck).ext (ct.t bw)).vN ce).ext (cf.t ba)).vN bf).vN bd).vN bg).vN bh).ext (bu.t av)).vN q).vN r).ext (Y.t D)).vN F).ext (ae.t H)).vN L).ext (ag.t (am.t (aq.t (au.t (aw.t (bm.t ci)))))))
 have el:=(((((jp.ext (Y.t D)).vN F).ext (ae.t H)).vN L).ext (ag.t (am.t (aq.t (au.t (aw.t (bm.t ci)))))))
 have iy:=(((jw.ext (ae.t H)).vN L).ext (ag.t (am.t (aq.t (au.t (aw.t (bm.t ci)))))))
 have gg:=(lm.ext (ag.t (am.t (aq.t (au.t (aw.t (bm.t ci)))))))
 have z3X:=(((((((((((((((((((((kf.ext cv).updT fk dd).ext de).updT fi df).ext (dg.t cj)).updT dr ck).ext (ct.t bw)).updT da ce).ext (cf.t ba)).updT bi bf).updT bj bd).updT bo bg).updT bt bh).ext (bu.t av)).updT o q).updT f r).ext (Y.t D)).updT E F).ext (ae.t H)).updT V L).ext (ag.t (am.t (aq.t (au.t (aw.t (bm.t ci)))))))
 have z3Y:=(((((((((((((((((((((kc.ext cv).updT fk dd).ext de).updT fi df).ext (dg.t cj)).updT dr ck).ext (ct.t bw)).updT da ce).ext (cf.t ba)).updT bi bf).updT bj bd).updT bo bg).updT bt bh).ext (bu.t av)).updT o q).updT f r).ext (Y.t D)).updT E F).ext (ae.t H)).updT V L).ext (ag.t (am.t (aq.t (au.t (aw.t (bm.t ci)))))))
 have z15X:=(((((ju.ext D).updT E F).ext (ae.t H)).updT V L).ext (ag.t (am.t (aq.t (au.t (aw.t (bm.t ci)))))))
 have z15Y:=(((((ka.ext D).updT E F).ext (ae.t H)).updT V L).ext (ag.t (am.t (aq.t (au.t (aw.t (bm.t ci)))))))
 have z16X:=(((jt.ext H).updT V L).ext (ag.t (am.t (aq.t (au.t (aw.t (bm.t ci)))))))
 have z16Y:=(((jy.ext H).updT V L).ext (ag.t (am.t (aq.t (au.t (aw.t (bm.t ci)))))))
 have cm:=(((((((((((((((((cm.ext cj).updTT dr (by decide) ck).ext (ct.t bw)).updTT da (by decide) ce).ext (cf.t ba)).updTT bi (by decide) bf).updTT bj (by decide) bd).updTT bo (by decide) bg).updTT bt (by decide) bh).ext (bu.t av)).updTT o (by decide) q).updTT f (by decide) r).ext (Y.t D)).updTT E (by decide) F).ext (ae.t H)).updTT V (by decide) L).ext (ag.t (am.t (aq.t (au.t (aw.t (bm.t ci)))))))
 have cu:=(((((((((((((((cu.ext bw).updTT da (by decide) ce).ext (cf.t ba)).updTT bi (by decide) bf).updTT bj (by decide) bd).updTT bo (by decide) bg).updTT bt (by decide) bh).ext (bu.t av)).updTT o (by decide) q).updTT f (by decide) r).ext (Y.t D)).updTT E (by decide) F).ext (ae.t H)).updTT V (by decide) L).ext (ag.t (am.t (aq.t (au.t (aw.t (bm.t ci)))))))
 have ch:=(((((((((((((ch.ext ba).updTT bi (by decide) bf).updTT bj (by decide) bd).updTT bo (by decide) bg).updTT bt (by decide) bh).ext (bu.t av)).updTT o (by decide) q).updTT f (by decide) r).ext (Y.t D)).updTT E (by decide) F).ext (ae.t H)).updTT V (by decide) L).ext (ag.t (am.t (aq.t (au.t (aw.t (bm.t ci)))))))
 have il:=((((((((ja.ext av).updT o ⟨by decide,by decide⟩ q).updT f ⟨by decide,by decide⟩ r).ext (Y.t D)).updT E ⟨by decide,by decide⟩ F).ext (ae.t H)).updT V ⟨by decide,by decide⟩ L).ext (ag.t (am.t (aq.t (au.t (aw.t (bm.t ci))))))).own
 have kt:=ja.cz
 have bv:=((((((((bv.ext av).updT o (by decide) q).updT f (by decide) r).ext (Y.t D)).updT E (by decide) F).ext (ae.t H)).updT V (by decide) L).ext (ag.t (am.t (aq.t (au.t (aw.t (bm.t ci)))))))
 have ib:=(((((((jm.updT o ⟨by decide,by decide⟩ q).updT f ⟨by decide,by decide⟩ r).ext (Y.t D)).updT E ⟨by decide,by decide⟩ F).ext (ae.t H)).updT V ⟨by decide,by decide⟩ L).ext (ag.t (am.t (aq.t (au.t (aw.t (bm.t ci))))))).own
 have lu:=jm.cz
 have bz:=(((((((bz.updT o (by decide) q).updT f (by decide) r).ext (Y.t D)).updT E (by decide) F).ext (ae.t H)).updT V (by decide) L).ext (ag.t (am.t (aq.t (au.t (aw.t (bm.t ci)))))))
 have bv:Fam gj pm.heap.size n1 γK (tU 0 ω):=by rw [DQ];exact bv
 have bz:Fam gj fw.heap.size n2 γL (tU 0 υ):=by rw [DQ];exact bz
 have jd:w.heap.size≤lq:=by rw [←qj];exact lz.size
 have mj:=nw
 have ky:m2≤gj.heap.size:=by rw [←lh];exact (aE (aE (aE (aE (aE (aE (aE (aE H.size L.size) ag.size) am.size) aq.size) au.size) aw.size) bm.size) ci.size)
 have ar:=UpT.of_ext lq hi (Ext.refl gj)
 have dh:=nw
 refine a6 (pf cg 1 G (lo aB (ar.bk el (by decide)) [.bool sa,i9 (some ⟨ga,0,none⟩) xs.length (xs.length+80)] G G G (d9 G G (vs:= [.agg #[.bool sa,i9 (some ⟨ga,0,none⟩) xs.length (xs.length+80)]]) (by kernel_rfl) (by decide) (tC (xs:=xs) cm la) ?_)))
 rintro _ _ ⟨rfl,jk,rt⟩
 refine dA ?_
 have ar:=ar.trans (UpT.of_upd (lo:=lq) (hi:=hi) cm (by omega) (by omega) jk)
 have dh:=ar.ext mj jd
 have cm:=rt
 have cu:=cu.vN jk
 have ch:=ch.vN jk
 have bv:=bv.updN jk (fun j hj=>by have:=jc j hj;omega)
 have bz:=bz.updN jk (fun j hj=>by have:=jf j hj;omega)
 refine a1 (sr (pf cg 3 G (lo aB (ar.bk el (by decide)) [.bool sb,i9 (some ⟨gb,0,none⟩) ys.length (ys.length+80)] G G G (d9 G G (vs:= [.agg #[.bool sb,i9 (some ⟨gb,0,none⟩) ys.length (ys.length+80)]]) (by kernel_rfl) (by decide) (tC (xs:=ys) cu lb) ?_))))
 rintro _ _ ⟨rfl,jg,qo⟩
 refine dA ?_
 have ar:=ar.trans (UpT.of_upd (lo:=lq) (hi:=hi) cu (by omega) (by omega) jg)
 have dh:=ar.ext mj jd
 have cm:=cm.vN jg
 have cu:=qo
 have ch:=ch.vN jg
 have bv:=bv.updN jg (fun j hj=>by have:=jc j hj;omega)
 have bz:=bz.updN jg (fun j hj=>by have:=jf j hj;omega)
 refine a1 (sr (pf cg 5 G (lo aB (ar.bk el (by decide)) [.bool sd,i9 (some ⟨gd,0,none⟩) ds.length (ds.length+80)] G G G (d9 G G (vs:= [.agg #[.bool sd,i9 (some ⟨gd,0,none⟩) ds.length (ds.length+80)]]) (by kernel_rfl) (by decide) (tC (xs:=ds) ch ld) ?_))))
 rintro _ tf ⟨rfl,jb,rq⟩
 refine dA ?_
 have ar:=ar.trans (UpT.of_upd (lo:=lq) (hi:=hi) ch (by omega) (by omega) jb)
 have dh:=ar.ext mj jd
 have cm:=cm.vN jb
 have cu:=cu.vN jb
 have ch:=rq
 have bv:=bv.updN jb (fun j hj=>by have:=jc j hj;omega)
 have bz:=bz.updN jb (fun j hj=>by have:=jf j hj;omega)
 refine a1 (a7 (sr (mv 1 G (a1 (bI ?_)))))
 refine cU (T:=a0×Nat)
  (fun⟨wr,i⟩=> [(3,a4 jj 0),(4,a4 cg 0),(15,a4 fb 0),(16,a4 fd 0),(17,a9 i)])
  (fun⟨wr,i⟩=>wr)
  (fun⟨wr,i⟩=>(Ext w wr)∧(i≤n1)∧(UpT lq hi gj wr)∧(Bk wr ga 65 ((dI xs.length xs++eM xs.length).map bC))∧(Bk wr gb 65 ((dI ys.length ys++eM ys.length).map bC))∧(Bk wr gd 65 ((dI ds.length ds++eM ds.length).map bC))∧(Fam wr pm.heap.size n1 γK (tU i ω))∧(Fam wr fw.heap.size n2 γL (tU 0 υ)))
  (fun⟨wr,i⟩=>n1-i)
  (⟨tf,0⟩:a0×Nat) ⟨dh,(bJ _),ar,cm,cu,ch,bv,bz⟩ G ⟨rfl,rfl,rfl,rfl,rfl,up⟩ ?_
 rintro⟨wr,i⟩ ⟨dh,uc,ar,cm,cu,ch,bv,bz⟩
 refine cR [(3,a4 jj 0),(4,a4 cg 0),(15,a4 fb 0),(16,a4 fd 0),(17,a9 i)] wr G ⟨rfl,rfl,rfl,rfl,rfl,up⟩ (a7 (a7 ?_))
 by_cases co:i<n1
 ·refine a6 (mv 1 G (pf cg 10 G (aL G G (aP (fun _=>by kernel_rfl) (ar.bk el (by decide)) G) (pu (v:= a9 n1) G (aA G G G true (dG (a:=i) (b:=n1) G G) (a1 (aY G (aW (aC (a7 (bI (a6 (pf cg 10 G ?_)))))))))))))
  refine aL G G (aP (fun _=>by kernel_rfl) (ar.bk el (by decide)) G) (mv 1 G ?_)
  obtain⟨uk,po,ro⟩:=qN (ar.ownT il (by decide)) (i:=i) (by omega) (kt i co).1 (kt i co).2
  refine bK G G G fQ aB.size i G uk po (aL G G (ro _ aK _ _ aB) ?_)
  have jz:=(bv.1 i co).2.2
  rw [yS] at jz
  refine d9 G G (vs:= [.agg #[.bool (σ i),i9 (some ⟨γK i,0,none⟩) ((ω i).length) ((ω i).length+80)]]) (by kernel_rfl) (by decide) (tC (xs:=(ω i)) jz (hK1 i co)) ?_
  rintro _ sx ⟨rfl,fx,qd⟩
  refine dA ?_
  have ar:=ar.trans (UpT.of_upd (lo:=lq) (hi:=hi) jz (loK _ co) (lK _ co) fx)
  have dh:=ar.ext mj jd
  have cm:=cm.updN fx (by have:=jc i co;omega)
  have cu:=cu.updN fx (by have:=jc i co;omega)
  have ch:=ch.updN fx (by have:=jc i co;omega)
  have bv:=bv.turn co fx qd
  have bz:=bz.updN fx (fun j hj=>by have:=tn i j co hj;omega)
  refine aS (bG (aC (a6 (mv 1 G (aR G G G ((i+1:Nat):Int) (bN (a:=i) (b:=1) G G) (mv 1 G (aS (bW (⟨sx,i+1⟩:a0×Nat) ⟨dh,(by omega),ar,cm,cu,ch,bv,bz⟩ (show n1-(i+1)<n1-i by omega) G ⟨rfl,rfl,rfl,rfl,rfl,up⟩))))))))
 ·obtain rfl:n1=i:=by omega
  refine a6 (mv 1 G (pf cg 10 G (aL G G (aP (fun _=>by kernel_rfl) (ar.bk el (by decide)) G) (pu (v:= a9 n1) G (aA G G G false (cW (a:=n1) (b:=n1) G G) (a1 (aN G (cN (cI (cL (cM (aC (a7 ?_)))))))))))))
  refine sr (mv 1 G (a1 (bI ?_)))
  refine cU (T:=a0×Nat)
   (fun⟨wr,i⟩=> [(3,a4 jj 0),(4,a4 cg 0),(15,a4 fb 0),(16,a4 fd 0),(18,a9 i)])
   (fun⟨wr,i⟩=>wr)
   (fun⟨wr,i⟩=>(Ext w wr)∧(i≤n2)∧(UpT lq hi gj wr)∧(Bk wr ga 65 ((dI xs.length xs++eM xs.length).map bC))∧(Bk wr gb 65 ((dI ys.length ys++eM ys.length).map bC))∧(Bk wr gd 65 ((dI ds.length ds++eM ds.length).map bC))∧(Fam wr fw.heap.size n2 γL (tU i υ))∧(Fam wr pm.heap.size n1 γK (tU n1 ω)))
   (fun⟨wr,i⟩=>n2-i)
   (⟨wr,0⟩:a0×Nat) ⟨dh,(bJ _),ar,cm,cu,ch,bz,bv⟩ G ⟨rfl,rfl,rfl,rfl,rfl,up⟩ ?_
  rintro⟨wr,i⟩ ⟨dh,uc,ar,cm,cu,ch,bz,bv⟩
  refine cR [(3,a4 jj 0),(4,a4 cg 0),(15,a4 fb 0),(16,a4 fd 0),(18,a9 i)] wr G ⟨rfl,rfl,rfl,rfl,rfl,up⟩ (a7 (a7 ?_))
  by_cases co:i<n2
  ·refine a6 (mv 1 G (pf cg 11 G (aL G G (aP (fun _=>by kernel_rfl) (ar.bk el (by decide)) G) (pu (v:= a9 n2) G (aA G G G true (dG (a:=i) (b:=n2) G G) (a1 (aY G (aW (aC (a7 (bI (a6 (pf cg 11 G ?_)))))))))))))
   refine aL G G (aP (fun _=>by kernel_rfl) (ar.bk el (by decide)) G) (mv 1 G ?_)
   obtain⟨tg,rc,py⟩:=qN (ar.ownT ib (by decide)) (i:=i) (by omega) (lu i co).1 (lu i co).2
   refine bK G G G fQ aB.size i G tg rc (aL G G (py _ aK _ _ aB) ?_)
   have jz:=(bz.1 i co).2.2
   rw [yS] at jz
   refine d9 G G (vs:= [.agg #[.bool (τ i),i9 (some ⟨γL i,0,none⟩) ((υ i).length) ((υ i).length+80)]]) (by kernel_rfl) (by decide) (tC (xs:=(υ i)) jz (hK2 i co)) ?_
   rintro _ ur ⟨rfl,ge,rp⟩
   refine dA ?_
   have ar:=ar.trans (UpT.of_upd (lo:=lq) (hi:=hi) jz (loL _ co) (lL _ co) ge)
   have dh:=ar.ext mj jd
   have cm:=cm.updN ge (by have:=jf i co;omega)
   have cu:=cu.updN ge (by have:=jf i co;omega)
   have ch:=ch.updN ge (by have:=jf i co;omega)
   have bv:=bv.updN ge (fun j hj=>by have:=tn j i hj co;omega)
   have bz:=bz.turn co ge rp
   refine aS (bG (aC (a6 (mv 1 G (aR G G G ((i+1:Nat):Int) (bN (a:=i) (b:=1) G G) (mv 1 G (aS (bW (⟨ur,i+1⟩:a0×Nat) ⟨dh,(by omega),ar,cm,cu,ch,bz,bv⟩ (show n2-(i+1)<n2-i by omega) G ⟨rfl,rfl,rfl,rfl,rfl,up⟩))))))))
  ·obtain rfl:n2=i:=by omega
   refine a6 (mv 1 G (pf cg 11 G (aL G G (aP (fun _=>by kernel_rfl) (ar.bk el (by decide)) G) (pu (v:= a9 n2) G (aA G G G false (cW (a:=n2) (b:=n2) G G) (a1 (aN G (cN (cI (cL (cM (aC (a7 ?_)))))))))))))
   have mz:=ar.bk mz (by decide)
   have z3X:=z3X.upT ar (fun p hp=>cD (wX p hp).2)
   have z3Y:=z3Y.upT ar (fun p hp=>cD (wY p hp).2)
   have el:=ar.bk el (by decide)
   have iy:=ar.bk iy (by decide)
   have z15X:=z15X.upT ar (fun p hp=>bT (pX p hp).1)
   have z15Y:=z15Y.upT ar (fun p hp=>bT (pY p hp).1)
   have gg:=ar.bk gg (by decide)
   have z16X:=z16X.upT ar (fun p hp=>bT (by have:=(qX p hp).1;have:=te;omega))
   have z16Y:=z16Y.upT ar (fun p hp=>bT (by have:=(qY p hp).1;have:=te;omega))
   have il:=ar.ownT il (by decide)
   have ib:=ar.ownT ib (by decide)
   have ky:m2≤wr.heap.size:=aE ky ar.size
   have ti:Op5 wr k (sg sa (nv (dI xs.length xs))) (sg sb (nv (dI ys.length ys))) (sg sd (nv (dI ds.length ds))) nn mm bs (gY n1 σ (tU n1 ω)) (gY n2 τ (tU n2 υ)) n1 n2 (.agg #[a9 k,.bool sa,i9 (some ⟨ga,0,none⟩) xs.length (xs.length+80),.bool sb,i9 (some ⟨gb,0,none⟩) ys.length (ys.length+80),.bool sd,i9 (some ⟨gd,0,none⟩) ds.length (ds.length+80),a9 nn,a9 mm,.string (aM bs),i9 (some ⟨gxK,0,none⟩) n1 (n1+2),i9 (some ⟨gxL,0,none⟩) n2 (n2+2)]):=⟨_,_,_,_,_,_,_,_,_,_,_,_,_,_,_,_,_,_,rfl,⟨_,jX cm (jT (aX _)) (oT hwx) (aO la G),rfl⟩,la,⟨_,jX cu (jT (aX _)) (oT kr) (aO lb G),rfl⟩,lb,⟨_,jX ch (jT (aX _)) (oT jo) (aO ld G),rfl⟩,ld,(nH il kt bv (jU n1) (Nat.le_add_right _ 2) (fun j hj=>by rw [jU];exact hK1 j hj)).zl,lW (fun j hj=>by rw [jU];exact hK1 j hj),(nH ib lu bz (jU n2) (Nat.le_add_right _ 2) (fun j hj=>by rw [jU];exact hK2 j hj)).zl,lW (fun j hj=>by rw [jU];exact hK2 j hj)⟩
   refine a6 (lo m7 el [a9 k,.bool sa,i9 (some ⟨ga,0,none⟩) xs.length (xs.length+80),.bool sb,i9 (some ⟨gb,0,none⟩) ys.length (ys.length+80),.bool sd,i9 (some ⟨gd,0,none⟩) ds.length (ds.length+80),a9 nn,a9 mm,.string (aM bs),i9 (some ⟨gxK,0,none⟩) n1 (n1+2),i9 (some ⟨gxL,0,none⟩) n2 (n2+2)] G G G (cl (vs:= [.agg #[a9 k,.bool sa,i9 (some ⟨ga,0,none⟩) xs.length (xs.length+80),.bool sb,i9 (some ⟨gb,0,none⟩) ys.length (ys.length+80),.bool sd,i9 (some ⟨gd,0,none⟩) ds.length (ds.length+80),a9 nn,a9 mm,.string (aM bs),i9 (some ⟨gxK,0,none⟩) n1 (n1+2),i9 (some ⟨gxL,0,none⟩) n2 (n2+2)]]) dh (IK ti hn1 hn2) G (by kernel_rfl) fun qw _ sk W je=>(cl (vs:= [qw]) je (I7 je.size sk hn1 hn2 hbs hlen hm1 hm2) G (by kernel_rfl) fun _ tx oh X iw=>?_)))
   rw [tw] at oh
   obtain⟨ks,mt,mf,mc,mo,mr,mb,kv,rfl,qi,pz,qv,re,rm⟩:=oh
   refine jG G (z:= .agg #[F0,S0,F0,S0,I0,I0,I0,.string ⟨#[]⟩,I0]) (vs:= [F0,S0,F0,S0,I0,I0,I0,.string ⟨#[]⟩,I0]) (fun _=>by kernel_rfl) G fun kj _ nb=>?_
   have gw_g188:tx.heap.size≤kj:=by rw [←nb.at_];exact aX _
   have ab:=nb.bk
   have qh:w.heap.size≤kj:=by rw [←nb.at_];exact iw.size
   have wm:fd<kj:=by rw [←nb.at_];exact (gg.ext (W.t X)).lt
   have I:=nb.ext
   clear nb
   have kq:=iw.trans I
   refine so bD ab [.bool ks,i9 mt mf mc,.bool mo,i9 mr mb kv,a9 S2.V,a9 S2.P,a9 S2.Q,.string (aM S2.S),a9 S2.E] kq qh G G G G fun pe mh U mi=>(a1 (sr (lo m7 ((el.ext (W.t (X.t I))).vN U) [a9 k,.bool sa,i9 (some ⟨ga,0,none⟩) xs.length (xs.length+80),.bool sb,i9 (some ⟨gb,0,none⟩) ys.length (ys.length+80),.bool sd,i9 (some ⟨gd,0,none⟩) ds.length (ds.length+80),a9 nn,a9 mm,.string (aM bs),i9 (some ⟨gxK,0,none⟩) n1 (n1+2),i9 (some ⟨gxL,0,none⟩) n2 (n2+2)] G G G ?_)))
   have mx:Op5 pe k (sg sa (nv (dI xs.length xs))) (sg sb (nv (dI ys.length ys))) (sg sd (nv (dI ds.length ds))) nn mm bs (gY n1 σ (tU n1 ω)) (gY n2 τ (tU n2 υ)) n1 n2 (.agg #[a9 k,.bool sa,i9 (some ⟨ga,0,none⟩) xs.length (xs.length+80),.bool sb,i9 (some ⟨gb,0,none⟩) ys.length (ys.length+80),.bool sd,i9 (some ⟨gd,0,none⟩) ds.length (ds.length+80),a9 nn,a9 mm,.string (aM bs),i9 (some ⟨gxK,0,none⟩) n1 (n1+2),i9 (some ⟨gxL,0,none⟩) n2 (n2+2)]):=⟨_,_,_,_,_,_,_,_,_,_,_,_,_,_,_,_,_,_,rfl,⟨_,jX ((cm.ext (W.t (X.t I))).updTT ab (by decide) U) (jT (aX _)) (oT hwx) (aO la G),rfl⟩,la,⟨_,jX ((cu.ext (W.t (X.t I))).updTT ab (by decide) U) (jT (aX _)) (oT kr) (aO lb G),rfl⟩,lb,⟨_,jX ((ch.ext (W.t (X.t I))).updTT ab (by decide) U) (jT (aX _)) (oT jo) (aO ld G),rfl⟩,ld,(nH ((il.ext (W.t (X.t I))).updT ab (by decide) U) kt ((bv.ext (W.t (X.t I))).updT ab (by decide) U) (jU n1) (Nat.le_add_right _ 2) (fun j hj=>by rw [jU];exact hK1 j hj)).zl,lW (fun j hj=>by rw [jU];exact hK1 j hj),(nH ((ib.ext (W.t (X.t I))).updT ab (by decide) U) lu ((bz.ext (W.t (X.t I))).updT ab (by decide) U) (jU n2) (Nat.le_add_right _ 2) (fun j hj=>by rw [jU];exact hK2 j hj)).zl,lW (fun j hj=>by rw [jU];exact hK2 j hj)⟩
   refine cl (vs:= [.agg #[a9 k,.bool sa,i9 (some ⟨ga,0,none⟩) xs.length (xs.length+80),.bool sb,i9 (some ⟨gb,0,none⟩) ys.length (ys.length+80),.bool sd,i9 (some ⟨gd,0,none⟩) ds.length (ds.length+80),a9 nn,a9 mm,.string (aM bs),i9 (some ⟨gxK,0,none⟩) n1 (n1+2),i9 (some ⟨gxL,0,none⟩) n2 (n2+2)]]) mi (B7 (aX _) mx (hS.ext mi) hn1 hn2 hbs hlen hm1 hm2) G (by kernel_rfl) fun _ nx oi aj lf=>?_
   rw [tw] at oi
   obtain⟨fs,fm,fj,fp,ft,fe,fo,fh,rfl,ik,iq,ku,kz,qg,qy⟩:=oi
   refine jG G (z:= .agg #[F0,S0,F0,S0,I0,I0,I0,.string ⟨#[]⟩,I0]) (vs:= [F0,S0,F0,S0,I0,I0,I0,.string ⟨#[]⟩,I0]) (fun _=>by kernel_rfl) G fun fy _ nb=>?_
   have gw_g204:nx.heap.size≤fy:=by rw [←nb.at_];exact aX _
   have ai:=nb.bk
   have rs:w.heap.size≤fy:=by rw [←nb.at_];exact lf.size
   have wy:kj<fy:=by rw [←nb.at_];exact (mh.ext aj).lt
   have Z:=nb.ext
   clear nb
   have px:=lf.trans Z
   refine so bD ai [.bool fs,i9 fm fj fp,.bool ft,i9 fe fo fh,a9 S2.V,a9 S2.P,a9 S2.Q,.string (aM S2.S),a9 S2.E] px rs G G G G fun _ ig aa lz=>(a1 (a7 (a7 ?_)))
   have rX:=ik.own.block
   have rY:=iq.own.block
   have xh:m2≤pe.heap.size:=aE ky (aE (aE (aE W.size X.size) I.size) U.size)
   have br:=mi.size
   refine a6 (lo bD ig [.bool fs,i9 fm fj fp,.bool ft,i9 fe fo fh,a9 S2.V,a9 S2.P,a9 S2.Q,.string (aM S2.S),a9 S2.E] G G G (lo bD ((mh.ext (aj.t Z)).vN aa) [.bool ks,i9 mt mf mc,.bool mo,i9 mr mb kv,a9 S2.V,a9 S2.P,a9 S2.Q,.string (aM S2.S),a9 S2.E] G G G (cl (vs:= [.agg #[.bool fs,i9 fm fj fp,.bool ft,i9 fe fo fh,a9 S2.V,a9 S2.P,a9 S2.Q,.string (aM S2.S),a9 S2.E],.agg #[.bool ks,i9 mt mf mc,.bool mo,i9 mr mb kv,a9 S2.V,a9 S2.P,a9 S2.Q,.string (aM S2.S),a9 S2.E]]) lz (tE (show AnsR _ S2 _ _ from⟨_,_,_,_,_,_,_,_,rfl,((ik.ext Z).updT ai aa),((iq.ext Z).updT ai aa),(aO ku G),(aO kz G),qg⟩) (show AnsR _ S2 _ _ from⟨_,_,_,_,_,_,_,_,rfl,((((qi.ext I).updT ab U).ext (aj.t Z)).updT ai aa),((((pz.ext I).updT ab U).ext (aj.t Z)).updT ai aa),(aO qv G),(aO re G),rm⟩)) G (by kernel_rfl) fun _ _ tz ah nh=>?_)))
   obtain rfl:=tz
   refine pu (v:= t9) G (mv 1 G (lo bD (((((iy.ext (W.t (X.t I))).vN U).ext (aj.t Z)).vN aa).ext ah) [.bool ey,i9 dz dy en,.bool ez,i9 ei dx ea,a9 S1.V,a9 S1.P,a9 S1.Q,.string (aM S1.S),a9 S1.E] G G G (lo bD (((((mz.ext (W.t (X.t I))).vN U).ext (aj.t Z)).vN aa).ext ah) [.bool ia,i9 ie iu io,.bool ir,i9 ij go gy,a9 S1.V,a9 S1.P,a9 S1.Q,.string (aM S1.S),a9 S1.E] G G G (cl (vs:= [.agg #[.bool ey,i9 dz dy en,.bool ez,i9 ei dx ea,a9 S1.V,a9 S1.P,a9 S1.Q,.string (aM S1.S),a9 S1.E],.agg #[.bool ia,i9 ie iu io,.bool ir,i9 ij go gy,a9 S1.V,a9 S1.P,a9 S1.Q,.string (aM S1.S),a9 S1.E]]) nh (tE (show AnsR _ S1 _ _ from⟨_,_,_,_,_,_,_,_,rfl,(((((z15X.ext (W.t (X.t I))).updT ab U).ext (aj.t Z)).updT ai aa).ext ah),(((((z15Y.ext (W.t (X.t I))).updT ab U).ext (aj.t Z)).updT ai aa).ext ah),(aO jn G),(aO jq G),me⟩) (show AnsR _ S1 _ _ from⟨_,_,_,_,_,_,_,_,rfl,(((((z3X.ext (W.t (X.t I))).updT ab U).ext (aj.t Z)).updT ai aa).ext ah),(((((z3Y.ext (W.t (X.t I))).updT ab U).ext (aj.t Z)).updT ai aa).ext ah),(aO kp G),(aO ke G),ko⟩)) G (by kernel_rfl) fun _ _ ss ao kw=>?_))))
   obtain rfl:=ss
   refine pu (v:= t9) G (pu (v:= t9) G (mv 1 G (lo bD (((((gg.ext (W.t (X.t I))).vN U).ext (aj.t Z)).vN aa).ext (ah.t ao)) [.bool fa,i9 eg em ep,.bool ew,i9 ej eh ef,a9 S1.V,a9 S1.P,a9 S1.Q,.string (aM S1.S),a9 S1.E] G G G (lo bD (((((mz.ext (W.t (X.t I))).vN U).ext (aj.t Z)).vN aa).ext (ah.t ao)) [.bool ia,i9 ie iu io,.bool ir,i9 ij go gy,a9 S1.V,a9 S1.P,a9 S1.Q,.string (aM S1.S),a9 S1.E] G G G (cl (vs:= [.agg #[.bool fa,i9 eg em ep,.bool ew,i9 ej eh ef,a9 S1.V,a9 S1.P,a9 S1.Q,.string (aM S1.S),a9 S1.E],.agg #[.bool ia,i9 ie iu io,.bool ir,i9 ij go gy,a9 S1.V,a9 S1.P,a9 S1.Q,.string (aM S1.S),a9 S1.E]]) kw (tE (show AnsR _ S1 _ _ from⟨_,_,_,_,_,_,_,_,rfl,(((((z16X.ext (W.t (X.t I))).updT ab U).ext (aj.t Z)).updT ai aa).ext (ah.t ao)),(((((z16Y.ext (W.t (X.t I))).updT ab U).ext (aj.t Z)).updT ai aa).ext (ah.t ao)),(aO jr G),(aO kb G),lg⟩) (show AnsR _ S1 _ _ from⟨_,_,_,_,_,_,_,_,rfl,(((((z3X.ext (W.t (X.t I))).updT ab U).ext (aj.t Z)).updT ai aa).ext (ah.t ao)),(((((z3Y.ext (W.t (X.t I))).updT ab U).ext (aj.t Z)).updT ai aa).ext (ah.t ao)),(aO kp G),(aO ke G),ko⟩)) G (by kernel_rfl) fun _ cx tk az gi=>?_)))))
   obtain rfl:=tk
   refine pu (v:= t9) G (pu (v:= t9) G (a1 (aN G (aW (aC (a7 ?_))))))
   have xg:nx.heap.size≤cx.heap.size:=(aE (aE (aE (aE Z.size aa.size) ah.size) ao.size) az.size)
   have pt:=gi
   have sgp:=Sg.two (s:=hi) (e:=m1) ((((((z15X.ext (W.t (X.t I))).updT ab U).ext (aj.t Z)).updT ai aa).ext (ah.t (ao.t az))).own.mono bp) ((((((z15Y.ext (W.t (X.t I))).updT ab U).ext (aj.t Z)).updT ai aa).ext (ah.t (ao.t az))).own.mono bp) qf (fun p hp=>pX p hp) (fun p hp=>pY p hp)
   have sgq:=Sg.two (s:=m1) (e:=m2) ((((((z16X.ext (W.t (X.t I))).updT ab U).ext (aj.t Z)).updT ai aa).ext (ah.t (ao.t az))).own.mono kbq) ((((((z16Y.ext (W.t (X.t I))).updT ab U).ext (aj.t Z)).updT ai aa).ext (ah.t (ao.t az))).own.mono kbq) pq (fun p hp=>by have:=qX p hp;omega) (fun p hp=>by have:=qY p hp;omega)
   have sgr:=Sg.two (s:=m2) (e:=cx.heap.size) ((((ik.ext Z).updT ai aa).ext (ah.t (ao.t az))).own.mono br) ((((iq.ext Z).updT ai aa).ext (ah.t (ao.t az))).own.mono br) qy (fun p hp=>by have:=rX p hp;omega) (fun p hp=>by have:=rY p hp;omega)
   have sga:Sg cx w.heap.size (fun g=>g=ga) _:=Sg.one (vC (((((cm.ext (W.t (X.t I))).updTT ab (by decide) U).ext (aj.t Z)).updTT ai (by decide) aa).ext (ah.t (ao.t az))) (jT (aX _)) (by omega) (aO la G)) (fun p hp=>by cases hp;rfl)
   have sgb:Sg cx w.heap.size (fun g=>g=gb) _:=Sg.one (vC (((((cu.ext (W.t (X.t I))).updTT ab (by decide) U).ext (aj.t Z)).updTT ai (by decide) aa).ext (ah.t (ao.t az))) (jT (aX _)) (by omega) (aO lb G)) (fun p hp=>by cases hp;rfl)
   have sgd:Sg cx w.heap.size (fun g=>g=gd) _:=Sg.one (vC (((((ch.ext (W.t (X.t I))).updTT ab (by decide) U).ext (aj.t Z)).updTT ai (by decide) aa).ext (ah.t (ao.t az))) (jT (aX _)) (by omega) (aO ld G)) (fun p hp=>by cases hp;rfl)
   obtain⟨dl,kn⟩:∃l:List Lst,l= [⟨dz,dy,en⟩,⟨ei,dx,ea⟩,⟨eg,em,ep⟩,⟨ej,eh,ef⟩,⟨fm,fj,fp⟩,⟨fe,fo,fh⟩,⟨(some ⟨ga,0,none⟩),xs.length,(xs.length+80)⟩,⟨(some ⟨gb,0,none⟩),ys.length,(ys.length+80)⟩,⟨(some ⟨gd,0,none⟩),ds.length,(ds.length+80)⟩]:=⟨_,rfl⟩
   have ve:Sg cx w.heap.size (fun g=>g≤gd∨hi≤g) dl:=by
    rw [kn]
    exact (((((sgp.app sgq (fun g (h1:hi≤g∧g<m1) (h2:m1≤g∧g<m2)=>by omega)).app sgr (fun g (h1:(hi≤g∧g<m1)∨m1≤g∧g<m2) (h2:m2≤g∧g<cx.heap.size)=>by omega)).app sga (fun g (h1:((hi≤g∧g<m1)∨m1≤g∧g<m2)∨m2≤g∧g<cx.heap.size) (h2:g=ga)=>by omega)).app sgb (fun g (h1:(((hi≤g∧g<m1)∨m1≤g∧g<m2)∨m2≤g∧g<cx.heap.size)∨g=ga) (h2:g=gb)=>by omega)).app sgd (fun g (h1:((((hi≤g∧g<m1)∨m1≤g∧g<m2)∨m2≤g∧g<cx.heap.size)∨g=ga)∨g=gb) (h2:g=gd)=>by omega)).imp (fun g (h:(((((hi≤g∧g<m1)∨m1≤g∧g<m2)∨m2≤g∧g<cx.heap.size)∨g=ga)∨g=gb)∨g=gd)=>by omega)
   have sgK:=Sg.fam (lb:=w.heap.size) (P:=fun g=>gd<g∧g<fw.heap.size) (((((bv.ext (W.t (X.t I))).updT ab (by decide) U).ext (aj.t Z)).updT ai (by decide) aa).ext (ah.t (ao.t az))) (jU n1) blK hK1 (fun j hj=>⟨jc j hj,uz j hj⟩)
   have sgL:=Sg.fam (lb:=w.heap.size) (P:=fun g=>fw.heap.size≤g∧g<hi∧gd<g) (((((bz.ext (W.t (X.t I))).updT ab (by decide) U).ext (aj.t Z)).updT ai (by decide) aa).ext (ah.t (ao.t az))) (jU n2) blL hK2 (fun j hj=>⟨(bz.1 j hj).1,lL j hj,jf j hj⟩)
   have sgA:=(ve.app sgK (fun g (h1:g≤gd∨hi≤g) (h2:gd<g∧g<fw.heap.size)=>by omega)).app sgL (fun g (h1:(g≤gd∨hi≤g)∨(gd<g∧g<fw.heap.size)) (h2:fw.heap.size≤g∧g<hi∧gd<g)=>by omega)
   have sv:dl.length=9:=by rw [kn];rfl
   have vi:∀x,x∈dl→x.n≤1099511620000:=by
    rw [kn];intro x hx
    simp only [mE,List.not_mem_nil,or_false] at hx
    rcases hx with rfl | rfl | rfl | rfl | rfl | rfl | rfl | rfl | rfl
    ·exact (z15X.le (aO jn G))
    ·exact (z15Y.le (aO jq G))
    ·exact (z16X.le (aO jr G))
    ·exact (z16Y.le (aO kb G))
    ·exact (ik.le (aO ku G))
    ·exact (iq.le (aO kz G))
    ·exact (aO la G)
    ·exact (aO lb G)
    ·exact (aO ld G)
   have il:=(((((il.ext (W.t (X.t I))).updT ab (by decide) U).ext (aj.t Z)).updT ai (by decide) aa).ext (ah.t (ao.t az)))
   have ib:=(((((ib.ext (W.t (X.t I))).updT ab (by decide) U).ext (aj.t Z)).updT ai (by decide) aa).ext (ah.t (ao.t az)))
   have oz:=(((((el.ext (W.t (X.t I))).vN U).ext (aj.t Z)).vN aa).ext (ah.t (ao.t az)))
   refine a6 (pu (v:= .agg #[S0,S0,S0]) G (l7 G G (vs:= [S0,S0,S0]) G fun dm tr nb=>?_))
   have geW_g224:cx.heap.size≤dm:=by rw [←nb.at_];exact (aX _)
   have gw_g224:cx.heap.size≤dm:=by rw [←nb.at_];exact aX _
   have lk:=nb.bk
   have vf:w.heap.size≤dm:=by rw [←nb.at_];exact gi.size
   have wp:fy<dm:=by rw [←nb.at_];exact (ig.ext (ah.t (ao.t az))).lt
   have dt:=nb.ext
   clear nb
   have iz:=gi.trans dt
   refine mv 1 G (a1 (a7 (sr (pf fb 0 G (lo aB (((((iy.ext (W.t (X.t I))).vN U).ext (aj.t Z)).vN aa).ext (ah.t (ao.t (az.t dt)))) (O ey dz dy en) G G G (pf fb 2 G (lo aB (((((iy.ext (W.t (X.t I))).vN U).ext (aj.t Z)).vN aa).ext (ah.t (ao.t (az.t dt)))) (O ez ei dx ea) G G G (pf fd 0 G (lo aB (((((gg.ext (W.t (X.t I))).vN U).ext (aj.t Z)).vN aa).ext (ah.t (ao.t (az.t dt)))) (O fa eg em ep) G G G (pf fd 2 G (lo aB (((((gg.ext (W.t (X.t I))).vN U).ext (aj.t Z)).vN aa).ext (ah.t (ao.t (az.t dt)))) (O ew ej eh ef) G G G (pf fy 0 G (lo aB (ig.ext (ah.t (ao.t (az.t dt)))) (O fs fm fj fp) G G G ?_)))))))))))))
   refine pf fy 2 G (lo aB (ig.ext (ah.t (ao.t (az.t dt)))) (O ft fe fo fh) G G G (pf cg 1 G (lo aB (((((el.ext (W.t (X.t I))).vN U).ext (aj.t Z)).vN aa).ext (ah.t (ao.t (az.t dt)))) [.bool sa,i9 (some ⟨ga,0,none⟩) xs.length (xs.length+80)] G G G (pf cg 3 G (lo aB (((((el.ext (W.t (X.t I))).vN U).ext (aj.t Z)).vN aa).ext (ah.t (ao.t (az.t dt)))) [.bool sb,i9 (some ⟨gb,0,none⟩) ys.length (ys.length+80)] G G G (pf cg 5 G (lo aB (((((el.ext (W.t (X.t I))).vN U).ext (aj.t Z)).vN aa).ext (ah.t (ao.t (az.t dt)))) [.bool sd,i9 (some ⟨gd,0,none⟩) ds.length (ds.length+80)] G G G (fW G G (k:=9) (e:=24) [.bool ey,i9 dz dy en,.bool ez,i9 ei dx ea,.bool fa,i9 eg em ep,.bool ew,i9 ej eh ef,.bool fs,i9 fm fj fp,.bool ft,i9 fe fo fh,.bool sa,i9 (some ⟨ga,0,none⟩) xs.length (xs.length+80),.bool sb,i9 (some ⟨gb,0,none⟩) ys.length (ys.length+80),.bool sd,i9 (some ⟨gd,0,none⟩) ds.length (ds.length+80)] (fun _=>by kernel_rfl) fun fq se nb=>?_))))))))
   have geW_g230:cx.heap.size≤fq:=by rw [←nb.at_];exact dt.size
   have gw_g230:tr.heap.size≤fq:=by rw [←nb.at_];exact aX _
   have pj:=nb.bk
   have vc:w.heap.size≤fq:=by rw [←nb.at_];exact iz.size
   have wg:dm<fq:=by rw [←nb.at_];exact lk.lt
   have mn:=nb.ext
   clear nb
   have kx:=iz.trans mn
   refine pu (v:= a9 9) G (mv 1 G (a1 (bI ?_)))
   have h9:∀i,i<9→∃s,([.bool ey,i9 dz dy en,.bool ez,i9 ei dx ea,.bool fa,i9 eg em ep,.bool ew,i9 ej eh ef,.bool fs,i9 fm fj fp,.bool ft,i9 fe fo fh,.bool sa,i9 (some ⟨ga,0,none⟩) xs.length (xs.length+80),.bool sb,i9 (some ⟨gb,0,none⟩) ys.length (ys.length+80),.bool sd,i9 (some ⟨gd,0,none⟩) ds.length (ds.length+80)]:List aD)[i*2]?=some (.bool s)∧([.bool ey,i9 dz dy en,.bool ez,i9 ei dx ea,.bool fa,i9 eg em ep,.bool ew,i9 ej eh ef,.bool fs,i9 fm fj fp,.bool ft,i9 fe fo fh,.bool sa,i9 (some ⟨ga,0,none⟩) xs.length (xs.length+80),.bool sb,i9 (some ⟨gb,0,none⟩) ys.length (ys.length+80),.bool sd,i9 (some ⟨gd,0,none⟩) ds.length (ds.length+80)]:List aD)[i*2+1]?=some (.slice (dl.getD i Lst.z).A (dl.getD i Lst.z).n (dl.getD i Lst.z).c):=by
    rw [kn];intro i hi
    match i,hi with
    | 0,_=>exact⟨_,rfl,rfl⟩
    | 1,_=>exact⟨_,rfl,rfl⟩
    | 2,_=>exact⟨_,rfl,rfl⟩
    | 3,_=>exact⟨_,rfl,rfl⟩
    | 4,_=>exact⟨_,rfl,rfl⟩
    | 5,_=>exact⟨_,rfl,rfl⟩
    | 6,_=>exact⟨_,rfl,rfl⟩
    | 7,_=>exact⟨_,rfl,rfl⟩
    | 8,_=>exact⟨_,rfl,rfl⟩
    | _+9,h=>exact absurd h (by omega)
   refine cU (T:=a0×Nat×Option a8×Nat)
    (fun⟨wB,i,WA,wc⟩=> [(4,a4 cg 0),(21,a4 dm 0),(212,i9 (some ⟨fq,0,none⟩) 9 9),(213,a9 9),(214,a9 i)])
    (fun⟨wB,i,WA,wc⟩=>wB)
    (fun⟨wB,i,WA,wc⟩=>(Ext w wB)∧(i≤9)∧(Ext cx wB)∧(Bk wB fq 24 [.bool ey,i9 dz dy en,.bool ez,i9 ei dx ea,.bool fa,i9 eg em ep,.bool ew,i9 ej eh ef,.bool fs,i9 fm fj fp,.bool ft,i9 fe fo fh,.bool sa,i9 (some ⟨ga,0,none⟩) xs.length (xs.length+80),.bool sb,i9 (some ⟨gb,0,none⟩) ys.length (ys.length+80),.bool sd,i9 (some ⟨gd,0,none⟩) ds.length (ds.length+80)])∧(Bk wB dm 47 [i9 WA i wc,S0,S0])∧(Own wB cx.heap.size 22 1 WA i wc ((dl.take i).map Lst.v)))
    (fun⟨wB,i,WA,wc⟩=>9-i)
    (⟨se,0,none,0⟩:a0×Nat×Option a8×Nat) ⟨kx,(bJ _),(dt.t mn),pj,(lk.ext mn),(Own.nil _ _ _ _)⟩ G ⟨rfl,rfl,rfl,rfl,rfl,up⟩ ?_
   rintro⟨wB,i,WA,wc⟩ ⟨dh,uc,hc,qx,tb,qe⟩
   refine cR [(4,a4 cg 0),(21,a4 dm 0),(212,i9 (some ⟨fq,0,none⟩) 9 9),(213,a9 9),(214,a9 i)] wB G ⟨rfl,rfl,rfl,rfl,rfl,up⟩ (a7 ?_)
   by_cases co:i<9
   ·refine a6 (aA G G G true (dG (a:=i) (b:=9) G G) (a1 (a7 (aY G (aW (aC (a7 (bI (sr ?_)))))))))
    obtain⟨s9,vh,vm⟩:=h9 i co
    obtain⟨tj,ru,rj⟩:=qN (Own.mk_ (s:=2) (base:=0) (bJ _) qx (aX 9) (by rw [eA];decide) G G) (i:=i) (by omega) vh vm
    refine bK G G G fQ aB.size i G tj ru (aL G G (rj _ aK _ _ aB) (jG G (z:= .agg #[F0,S0]) (vs:= [F0,S0]) (fun _=>by kernel_rfl) G fun kk _ nb=>?_))
    have geW_g237:wB.heap.size≤kk:=by rw [←nb.at_];exact (aX _)
    have gw_g237:wB.heap.size≤kk:=by rw [←nb.at_];exact aX _
    have jv:=nb.bk
    have rk:w.heap.size≤kk:=by rw [←nb.at_];exact dh.size
    have vz:fq<kk:=by rw [←nb.at_];exact qx.lt
    have fz:=nb.ext
    clear nb
    have je:=dh.trans fz
    refine so aB jv [.bool s9,.slice (dl.getD i Lst.z).A (dl.getD i Lst.z).n (dl.getD i Lst.z).c] je rk G G G G fun _ rn ji iw=>(a1 (a6 (mv 1 G (lo aB rn [.bool s9,.slice (dl.getD i Lst.z).A (dl.getD i Lst.z).n (dl.getD i Lst.z).c] G G G (d9 G G (vs:= [a4 dm 0,.agg #[.bool s9,.slice (dl.getD i Lst.z).A (dl.getD i Lst.z).n (dl.getD i Lst.z).c]]) (by kernel_rfl) (by decide) (UP (n:=i) ((tb.ext fz).updTT jv (by decide) ji) ((qe.ext fz).updT jv (by decide) ji) (hc.trans (ji.ext fz geW_g237)).size geW_g224 (by omega)) ?_)))))
    rintro _ si ⟨rfl,lv,_,_,pg,qs⟩
    refine dA ?_
    have hc:=lv.ext (hc.trans (ji.ext fz geW_g237)) (aX _)
    have kq:=pt.trans hc
    refine aS (bG (aC (a6 (aR G G G ((i+1:Nat):Int) (bN (a:=i) (b:=1) G G) (mv 1 G (aS (bW (⟨si,i+1,_,_⟩:a0×Nat×Option a8×Nat) ⟨kq,(by omega),hc,(lv.bk ((qx.ext fz).vN ji) (by decide) (by decide) (by decide)),pg,(by rw [←MI (by rw [sv];exact co)];exact qs)⟩ (show 9-(i+1)<9-i by omega) G ⟨rfl,rfl,rfl,rfl,rfl,up⟩)))))))
   ·obtain rfl:i=9:=by omega
    rw [List.take_of_length_le (by omega)] at qe
    refine a6 (aA G G G false (by decide) (a1 (a7 (aN G (cN (cI (cL (cM (aC (sr (mv 1 G (pf cg 10 G (aL G G (aP (fun _=>by kernel_rfl) (oz.ext hc) G) ?_)))))))))))))
    refine d9 G G (vs:= [a4 dm 0,i9 (some ⟨gxK,0,none⟩) n1 (n1+2)]) (by kernel_rfl) (by decide) (IO (n:=9) (k:=0) (ms:= []) (xs:=jA n1 γK ω) tb qe (Own.nil _ _ _ _) hc.size geW_g224 ((il.ext hc).take (k:=n1) (Nat.le_add_right _ 2)) (pA _ _ _) (J8 kt) (by omega) (by decide)) ?_
    rintro _ _ ⟨rfl,mg,_,_,_,_,pk,qq,qz⟩
    refine dA ?_
    have ll:=mg.bk (oz.ext hc) (by decide) (by decide) (by decide)
    have hc:=mg.ext hc (aX _)
    have je:=pt.trans hc
    refine a1 (sr (mv 1 G (pf cg 11 G (aL G G (aP (fun _=>by kernel_rfl) ll G) (d9 G G (vs:= [a4 dm 0,i9 (some ⟨gxL,0,none⟩) n2 (n2+2)]) (by kernel_rfl) (by decide) (IO (n:=(9+n1)) (k:=1) (ms:=([]++ [⟨some ⟨gxK,0,none⟩,n1,n1+2⟩])) (xs:=jA n2 γL υ) pk qq qz hc.size geW_g224 ((ib.ext hc).take (k:=n2) (Nat.le_add_right _ 2)) (pA _ _ _) (J8 lu) (by omega) (by decide)) ?_)))))
    rintro _ sm ⟨rfl,md,_,_,_,_,qr,qu,ph⟩
    refine dA ?_
    have ll:=md.bk ll (by decide) (by decide) (by decide)
    have hc:=md.ext hc (aX _)
    have iw:=pt.trans hc
    refine a1 (sr (mv 1 G ?_))
    have hlen:(((dl++jA n1 γK ω)++jA n2 γL υ)).length=((9+n1)+n2):=by rw [eN,eN,pA,pA,sv]
    have sw:=qr
    have ta:=qu
    rw [←hlen] at sw ta
    have qm:=GM (ls:=((dl++jA n1 γK ω)++jA n2 γL υ)) (M:=1099511620000) (fun x hx=>by
     rcases mF.1 hx with hx | hx
     ·rcases mF.1 hx with hx | hx
      ·exact vi x hx
      ·exact aE (GN hK1 x hx) (by decide)
     ·exact aE (GN hK2 x hx) (by decide))
    have vg:Ai1 sm w.heap.size [⟨some ⟨gxK,0,none⟩,n1,n1+2⟩,⟨some ⟨gxL,0,none⟩,n2,n2+2⟩] 0 0:=WT ((il.ext hc).take (k:=n1) (Nat.le_add_right _ 2)) ((ib.ext hc).take (k:=n2) (Nat.le_add_right _ 2)) blK blL (Nat.ne_of_lt tu)
    have vn:=GM (ls:= [⟨some ⟨gxK,0,none⟩,n1,n1+2⟩,⟨some ⟨gxL,0,none⟩,n2,n2+2⟩]) (M:=1099511620000) (fun x hx=>by
     simp only [mE,List.not_mem_nil,or_false] at hx
     rcases hx with rfl | rfl
     ·exact aE hn1 (by decide)
     ·exact aE hn2 (by decide))
    refine d9 G G (vs:= [a4 dm 0]) (by kernel_rfl) (by decide) (UQ (ls:=((dl++jA n1 γK ω)++jA n2 γL υ)) (ms:= [⟨some ⟨gxK,0,none⟩,n1,n1+2⟩,⟨some ⟨gxL,0,none⟩,n2,n2+2⟩]) (lb:=w.heap.size) sw ta ph (sgA.ext hc).al vg iw.size (by rw [hlen];omega) qm (bq G) vn) ?_
    rintro _ _ ⟨rfl,ry⟩
    refine dA ?_
    have jo:=ry w iw (aX _)
    have dh:=jo
    refine mv 1 G (a1 (aU (aT [no] G ⟨rfl,up⟩ ?_)))
    exact⟨_,rfl,rfl,dh⟩
theorem RO (h:CC w us)(hS:Signs w):aQ aH 3 #[.agg us.toArray] w (xQ true w):=by
 obtain⟨k,x,y,z,nn,mm,bs,zs,ys,_,_,⟨sa,Aa,na,ca,sb,Ab,nb,cb,sd,Ad,nd,cd,A,_,ms,C,_,_,e,⟨xs,hx,_⟩,la,⟨_,W,_⟩,lb,⟨_,V,_⟩,ld,hl,E,p,f⟩,q,r,M,o,L,U⟩:=h
 obtain⟨σ,ω,D,_,F⟩:=hl.zw
 obtain⟨τ,υ,I,_,H⟩:=p.zw
 obtain rfl:=hx.len
 obtain rfl:=W.len
 obtain rfl:=V.len
 rw [e]
 exact (RN hx la W lb V ld D (fun i hi=>by rw [F i hi];exact E i) I (fun i hi=>by rw [H i hi];exact f i) hS q r M o L U).mono fun e w' h=>WJ _ _ h
end Go.Proofs.YtkepckmdjncehaaGreatDoor
