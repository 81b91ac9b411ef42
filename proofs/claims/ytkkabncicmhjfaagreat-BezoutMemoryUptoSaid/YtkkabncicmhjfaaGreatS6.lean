/- Parts Rf6b, Bit, Pow6, Rf6c, Tot6, Bo, Lg6, joined. -/
import Derived.Test.YtkkabncicmhjfaaGreatS5

open Go renaming Addr → aG, Calls → aQ, Value → aI, World → a7
open Classical renaming choose → o3, choose_spec → pL
open List renaming getD_eq_getElem?_getD → bE, getElem?_eq_getElem → cA
open Nat renaming add_mul_div_left → qZ, div_eq_of_lt → gC, div_le_self → i8, le_refl → aS, le_trans → a6, lt_of_lt_of_le → d4, mod_eq_of_lt → fM, mul_assoc → bZ, mul_le_mul_left → fG, mul_one → eG, mul_zero → fX, pow_add → dU, pow_le_pow_right → i6, pow_pos → iO, pow_succ → dJ, zero_le → bJ
open Or renaming inl → bS, inr → bW
open Go.Proofs.Tryz renaming prog → aM
open Go.Value renaming int → gK
namespace Go.Proofs.YtkkabncicmhjfaaGreat
set_option maxHeartbeats 4000000
variable {A Aa Ab Ad Ae Af B:Option aG}{E K N b b' b2 c ca cap cap2 cb cd ce cf e i i0 j k n na nd ne nf t:Nat}{a g m s u v x y z:Int}{ds js ks ms xs:List Nat}{rs zs:List Int}{sa sb sd se sf:Bool}{w:a7}
open Go.RowKit
noncomputable def eO (x y:Int):Int:=o3 (vE x y)
noncomputable def gJ (x y:Int):Int:=o3 (pL (vE x y))
theorem iR (x y:Int):Bez x y (eO x y) (gJ x y):=pL (pL (vE x y))
theorem Bez.uniq {u' v':Int}(h:Bez x y u v)(h':Bez x y u' v'):u=u'∧v=v':=by
 by_cases f:y=0
 ·obtain⟨a,b⟩:=h.zero f
  obtain⟨c,d⟩:=h'.zero f
  exact⟨by rw [a,c],by rw [b,d]⟩
 ·have I:=Int.gcd_pos_of_ne_zero_right x f
  have o:=h.eq
  have D:=h'.eq
  have p:=h.lo f
  have E:=h'.lo f
  have U:=h.hi f
  have L:=h'.hi f
  have F:y∣u*(Int.gcd x y:Int)-u'*(Int.gcd x y:Int):=by
   refine⟨u*v'-u'*v,?_⟩
   generalize (Int.gcd x y:Int)=g at*
   have e:u*g-u'*g=u*(x*u'+y*v')-u'*(x*u+y*v):=by rw [o,D]
   rw [e];grind
  have M:0≤u*(Int.gcd x y:Int):=Int.mul_nonneg p (by omega)
  have V:0≤u'*(Int.gcd x y:Int):=Int.mul_nonneg E (by omega)
  have H:=Int.eq_zero_of_dvd_of_natAbs_lt_natAbs F (by omega)
  have q:u=u':=Int.eq_of_mul_eq_mul_right (show (Int.gcd x y:Int)≠0 by omega) (by omega)
  subst q
  exact⟨rfl,Int.eq_of_mul_eq_mul_left f (by omega)⟩
theorem Bez.eqs (h:Bez x y u v):u=eO x y∧v=gJ x y:=h.uniq (iR x y)
theorem PF {nb:Nat}(hb:b≤w.heap.size)(hx:Zi w sa Aa na ca x)(la:na≤1073741824)(hy:Zi w sb Ab nb cb y)(lb:nb≤1073741824):aQ aM 38 #[J sa Aa na ca,J sb Ab nb cb] w (Gv w (T3 (ZR b (Int.gcd x y:Int)) (ZR b (eO x y)) (ZR b (gJ x y)))):=
 (F3 hb hx la hy lb).mono fun _ _ ⟨u,v,h,q,f,p,o⟩=>⟨q,f,(by obtain⟨rfl,rfl⟩:=h.eqs;exact p),o⟩
theorem H7 (h:g∣a):((a.natAbs:Int)).natAbs%g.natAbs=0:=by
 rw [Int.natAbs_natCast];exact Nat.mod_eq_zero_of_dvd (Int.natAbs_dvd_natAbs.2 h)
theorem TF (hg:0≤g):(a.natAbs:Int).tdiv g=((a.tdiv g).natAbs:Int):=by
 rw [Int.natAbs_tdiv]
 obtain⟨k,rfl⟩:=Int.eq_ofNat_of_zero_le hg
 rw [Int.natAbs_natCast]
 exact Int.ofNat_tdiv _ _
theorem G8 {n:Int}(hm:m≠0):(m.natAbs:Int).tdiv (Int.gcd m n:Int)*(Int.gcd m n:Int)=(m.natAbs:Int)∧(n.natAbs:Int).tdiv (Int.gcd m n:Int)*(Int.gcd m n:Int)=(n.natAbs:Int):=
 ⟨Int.tdiv_mul_cancel (Int.dvd_natAbs.2 (Int.gcd_dvd_left m n)),Int.tdiv_mul_cancel (Int.dvd_natAbs.2 (Int.gcd_dvd_right m n))⟩
theorem G6 {n:Int}(hm:m≠0)(hn:n≠0):(n.natAbs:Int).tdiv (Int.gcd m n:Int)≠0∧(Int.gcd ((m.natAbs:Int).tdiv (Int.gcd m n:Int)) ((n.natAbs:Int).tdiv (Int.gcd m n:Int)):Int)=1:=by
 obtain⟨q,o⟩:=G8 (n:=n) hm
 have f:0<Int.gcd m n:=Int.gcd_pos_of_ne_zero_left n hm
 refine⟨fun e=>?_,?_⟩
 ·rw [e,Int.zero_mul] at o;omega
 ·have h:Int.gcd ((m.natAbs:Int).tdiv (Int.gcd m n:Int)*(Int.gcd m n:Int)) ((n.natAbs:Int).tdiv (Int.gcd m n:Int)*(Int.gcd m n:Int))=Int.gcd ((m.natAbs:Int).tdiv (Int.gcd m n:Int)) ((n.natAbs:Int).tdiv (Int.gcd m n:Int))*(Int.gcd m n:Int).natAbs:=Int.gcd_mul_right _ _ _
  rw [q,o,Int.natAbs_natCast] at h
  have p:Int.gcd (m.natAbs:Int) (n.natAbs:Int)=Int.gcd m n:=by unfold Int.gcd;rw [Int.natAbs_natCast,Int.natAbs_natCast]
  have D:1*Int.gcd m n=Int.gcd ((m.natAbs:Int).tdiv (Int.gcd m n:Int)) ((n.natAbs:Int).tdiv (Int.gcd m n:Int))*Int.gcd m n:=by rw [Nat.one_mul,←h,p]
  have:=Nat.eq_of_mul_eq_mul_right f D
  omega
theorem yV (hm:m≠0)(hv:v≠0):(m.natAbs:Int)*v≠0:=fun e=>by
 rcases Int.mul_eq_zero.1 e with h | h
 ·omega
 ·exact hv h
theorem G7 {n:Int}(hm:m≠0)(hn:n≠0):(m.natAbs:Int)*(n.natAbs:Int).tdiv (Int.gcd m n:Int)=(Int.lcm m n:Int):=by
 rw [TF (by omega),←Int.natCast_mul,←Int.natAbs_mul,Int.natAbs_mul,Int.natAbs_tdiv,Int.natAbs_natCast]
 unfold Int.lcm Nat.lcm
 congr 1
 exact (Nat.mul_div_assoc _ (Int.gcd_dvd_natAbs_right m n)).symm
theorem S6 {n:Int}(hm:m≠0)(hn:n≠0)(h:Bez ((m.natAbs:Int).tdiv (Int.gcd m n:Int)) ((n.natAbs:Int).tdiv (Int.gcd m n:Int)) u v)(d1:m∣x-s)(d2:n∣y-s):(x+((y-x).tdiv (Int.gcd m n:Int)*u%(n.natAbs:Int).tdiv (Int.gcd m n:Int))*(m.natAbs:Int))%((m.natAbs:Int)*(n.natAbs:Int).tdiv (Int.gcd m n:Int))=s%(Int.lcm m n:Int):=by
 rw [G7 hm hn]
 obtain⟨o,f⟩:=G8 (n:=n) hm
 obtain⟨t,E⟩:=uY d1 d2
 have L:=(G6 hm hn).2
 have hb:=h.eq
 rw [L] at hb
 have et:(y-x).tdiv (Int.gcd m n:Int)=t:=by rw [E];exact Int.mul_tdiv_cancel_left _ (nM hm)
 rw [et]
 generalize (m.natAbs:Int).tdiv (Int.gcd m n:Int)=p at*
 generalize (n.natAbs:Int).tdiv (Int.gcd m n:Int)=q at*
 have em:=Int.mul_ediv_add_emod (t*u) q
 refine FM (Int.coe_lcm_dvd ?_ ?_)
 ·have e:x+(t*u%q)*(m.natAbs:Int)-s=(x-s)+(m.natAbs:Int)*(t*u%q):=by rw [Int.mul_comm (m.natAbs:Int)];omega
  rw [e]
  exact Int.dvd_add d1 (Int.dvd_mul_of_dvd_left (Int.dvd_natAbs.2 (Int.dvd_refl m)))
 ·have V:(n.natAbs:Int)∣x+(t*u%q)*(m.natAbs:Int)-y:=by
   rw [←o,←f]
   refine⟨-(v*t)-p*(t*u/q),?_⟩
   have D:t*u%q=t*u-q*(t*u/q):=by omega
   rw [D]
   generalize t*u/q=k
   have M:x-y= -((Int.gcd m n:Int)*t):=by omega
   generalize (Int.gcd m n:Int)=g at*
   have I:x+(t*u-q*k)*(p*g)-y=(x-y)+(t*u-q*k)*(p*g):=by omega
   rw [I,M]
   have F:t*u*(p*g)=g*t*(p*u):=by grind
   have H:p*u=1-q*v:=by omega
   have U:(t*u-q*k)*(p*g)=g*t*(1-q*v)-q*k*(p*g):=by rw [Int.sub_mul,F,H]
   rw [U];grind
  have e:x+(t*u%q)*(m.natAbs:Int)-s=(x+(t*u%q)*(m.natAbs:Int)-y)+(y-s):=by omega
  rw [e]
  exact Int.dvd_add (Int.natAbs_dvd.1 V) d2
theorem PE (hb:b≤w.heap.size)(hl:Zl w A n cap zs ms)(hn:n≤2097152)(hmb:∀i,ms.getD i 0≤16777216):aQ aM 36 #[AT A n cap] w (Gv w (ZR b (bQ zs))):=by
 have hln:∀i,ln (zs.getD i 0)≤16777216:=uI hl hmb
 refine bP Tryz.func36 G (n:=19) G (bq G) (args:= [AT A n cap]) (bH [(0,AT A n cap)] ⟨rfl,Fo⟩ (sr (al [F0,S0] (Ext.refl w) (fun _=>by kernel_rfl) G fun g1 _ ai bg _ h=>(aA (sr (pu (v:= .agg #[F0,S0]) G (bF [F0,S0] h ai.lt (fun _=>by kernel_rfl) G fun g6 _ bd F _ e8 f=>(so a8 bd [F0,S0] f F G G G G fun ao aa au q=>(aA (aH (sr (mv 1 G (aR ?_)))))))))))))
 refine aK (bG ?_)
 refine cQ (T:=a7×Nat×ZC)
  (fun⟨wr,k,kg⟩=> [(0,AT A n cap),(2,no g1 0),(3,no g6 0),(4,v4 k)])
  (fun⟨wr,k,kg⟩=>wr)
  (fun⟨wr,k,kg⟩=>(Ext w wr)∧(k≤n)∧(Bk wr g1 24 [F0,S0])∧(Bk wr g6 24 (O kg.s kg.A kg.n kg.c))∧(Zr wr w.heap.size kg.s kg.A kg.n kg.c (bQ (zs.take k))))
  (fun⟨wr,k,kg⟩=>n-k)
  (⟨ao,0,⟨false,none,0,0⟩⟩:a7×Nat×ZC) ⟨q,bJ _,((ai.ext e8).vN au),aa,Zr.zero⟩ G ⟨rfl,rfl,rfl,rfl,Fo⟩ ?_
 rintro⟨wr,k,kg⟩ ⟨h,_,b_2,b_3,zg⟩
 refine cP [(0,AT A n cap),(2,no g1 0),(3,no g6 0),(4,v4 k)] wr G ⟨rfl,rfl,rfl,rfl,Fo⟩ (aH (aH ?_))
 by_cases bi:k<n
 ·refine aJ (mv 2 G (pu (v:= v4 n) G (aN G G G true (cG (a:=k) (b:=n) G G) (aA (bB G (b8 (aK (aH (bG ?_)))))))))
  obtain⟨D,L,E,H,U,V,p⟩:=hl.at (i:=k) (by omega)
  have bj:ln ((Int.gcd (bQ (zs.take k)) (zs.getD k 0):Int))≤16777216:=a6 (fK _ _) (Nat.max_le.2 ⟨a6 (gZ hln k) (by decide),a6 (a6 p.ln (hmb k)) (by decide)⟩)
  refine cU bR 6 [] [Is (J kg.s kg.A kg.n kg.c),Is (AT A n cap),Is (v4 k),Is (.pointer (some D)),Is (.agg #[.bool L,AT E (ms.getD k 0) H]),ZR w.heap.size ((Int.gcd (bQ (zs.take k)) (zs.getD k 0):Int))] [[],[],[],[1,2],[3],[0,4]] [[],[],[],[1,2],[1,2,3],[0,1,2,3,4],[0,1,2,3,4,5]] rfl
   (aF G G (aC G G ?_) (aF G G (aC G G ?_) (aF G G (aC G G ?_) (aF G G (aC G G ?_) (aF G G (aC G G ?_) (aF G G (aC G G ?_) cE)))))) ?_
  ·exact fun _ an=>aB (lo a8 (b_3.ext an) (O kg.s kg.A kg.n kg.c) G G G (aE G aD G))
  ·exact fun _ _=>aB (mv 1 G (aE G aD G))
  ·exact fun _ _=>aB (mv 1 G (aE G aD G))
  ·exact fun _ _=>dk G G (dk G G (aB (bI G G G d9 a8.size k G D U (aE G aD G))))
  ·intro _ aq
   have f:=h.trans aq
   refine dk G G (aB (aP G G (V _ f _ _ a8) ?_))
   exact aE G aD rfl
  ·intro _ ab
   have f:=h.trans ab
   refine dk G G (dk G G (aB ?_))
   have bo:ln ((Int.gcd (bQ (zs.take k)) (zs.getD k 0):Int))≤16777216:=a6 (fK _ _) (Nat.max_le.2 ⟨a6 (gZ hln k) (by decide),a6 (a6 p.ln (hmb k)) (by decide)⟩)
   refine cl (vs:= [J kg.s kg.A kg.n kg.c,.agg #[.bool L,AT E (ms.getD k 0) H]]) f (nO f.size (zg.ext ab).zi (zg.le (a6 (gZ hln k) (by decide))) (p.ext f) (a6 (hmb k) (by decide))) G (by kernel_rfl) fun _ _ ar bf q=>?_
   obtain⟨_,_,_,_,rfl,az⟩:=ar
   exact aE G bf ⟨_,_,_,_,rfl,az⟩
  ·intro _ W
   have f:=h.trans W
   refine dk G G (dk G G (dk G G (dk G G (dk G G (aO G G fun _ _ aw _ bh=>?_)))))
   obtain⟨ak,ag,am,Z,rfl,M⟩:=aw
   have M:=M.ext bh
   refine aB ?_
   have I:=(b_3.ext W)
   refine so a8 I (O ak ag am Z) f F G G G G fun bc ah ae q=>(aR (cF (bM (aK (aJ (mv 1 G (aT G G G ((k+1:Nat):Int) (bK (a:=k) (b:=1) G G) (mv 1 G (aR (bX (⟨bc,k+1,⟨ak,ag,am,Z⟩⟩:a7×Nat×ZC) ⟨q,(by omega),((b_2.ext W).vN ae),ah,((M.updT I ae)).cast (sB (by rw [hl.len];omega))⟩ (show n-(k+1)<n-k by omega) G ⟨rfl,rfl,rfl,rfl,Fo⟩))))))))))
 ·refine aJ (mv 2 G (pu (v:= v4 n) G (aN G G G false (cL (a:=k) (b:=n) G G) (aA (aV G (cR (cK (cN (cO (aK (sr (lo a8 b_3 (O kg.s kg.A kg.n kg.c) G G G ?_))))))))))))
  have o:=b_2
  refine so a8 o (O kg.s kg.A kg.n kg.c) h bg G G G G fun _ X Y f=>(aA (bD (bC [J kg.s kg.A kg.n kg.c] G ⟨⟨_,rfl,aW a8 X (O kg.s kg.A kg.n kg.c) G (bq G) rfl⟩,Fo⟩ ?_)))
  have aj:k=n:=by omega
  exact⟨_,rfl,⟨_,_,_,_,rfl,(((zg.updT o Y)).cast (show bQ (zs.take k)=bQ zs by rw [aj,nA hl])).mono hb⟩,f⟩
theorem PG (hb:b≤w.heap.size)(hb2:b2≤w.heap.size)(hl:Zl w A n cap zs ms)(hn:n≤1048576)(hmb:∀i,ms.getD i 0≤1048576)(hsum:(zs.map ln).sum≤1048576):aQ aM 39 #[AT A n cap] w (fun e w'=>∃cs,ExtL zs cs n∧Gv w (T2 (ZR b (bQ zs)) (LR 8388608 b b2 n cs)) e w'):=by
 have hln:∀i,ln (zs.getD i 0)≤1048576:=uI hl hmb
 have kv:∀k,sl (zs.take k)≤2097152:=fun k=>a6 (BQ zs k) (by rw [hl.len];omega)
 refine bP Tryz.func39 G (n:=51) G (bq G) (args:= [AT A n cap]) (bH [(0,AT A n cap)] ⟨rfl,Fo⟩ (sr (al [F0,S0] (Ext.refl w) (fun _=>by kernel_rfl) G fun g1 _ ib mj _ U=>(mv 1 G (aA (sr (pu (v:= .agg #[F0,S0]) G (bF [F0,S0] U ib.lt (fun _=>by kernel_rfl) G fun g6 _ lv ez _ e8 D=>(so a8 lv [F0,S0] D ez G G G G fun _ ej jj am=>(aA (sr (wQ (k:=0) none 8388608 w.heap.size G G G fun ag ju ck dx gf=>?_))))))))))))
 have nl:g1<ag:=by rw [←ck];exact ((ib.ext e8).vN jj).lt
 have nt:g6<ag:=by rw [←ck];exact ej.lt
 have eg:ag≤ju.heap.size:=by have:=(dx.block _ G).2;exact Nat.le_of_lt this
 have lh:w.heap.size≤ag:=by rw [←ck];exact am.size
 clear ck
 have dc:=am.trans gf
 have mh:=dx.block
 refine mv 1 G (aA (aH (sr (mv 1 G (aA (bG ?_))))))
 refine cQ (T:=a7×Nat×ZC×Option aG×Nat×List Int)
  (fun⟨wr,k,kg,LA,lc,cs⟩=> [(0,AT A n cap),(2,no g1 0),(3,AT none 0 0),(4,no g6 0),(5,AT LA k lc),(6,v4 k)])
  (fun⟨wr,k,kg,LA,lc,cs⟩=>wr)
  (fun⟨wr,k,kg,LA,lc,cs⟩=>(Ext w wr)∧(k≤n)∧(cs.length=k)∧(∀i,ln (cs.getD i 0)≤1048578+sl (zs.take k))∧(j3 (zs.take k) cs=bQ (zs.take k))∧(pB (zs.take k).reverse cs)∧(ag≤wr.heap.size)∧(Lz none 8388608 w.heap.size wr ag LA k lc cs)∧(Bk wr g1 24 [F0,S0])∧(Bk wr g6 24 (O kg.s kg.A kg.n kg.c))∧(Zr wr w.heap.size kg.s kg.A kg.n kg.c (bQ (zs.take k))))
  (fun⟨wr,k,kg,LA,lc,cs⟩=>n-k)
  (⟨ju,0,⟨false,none,0,0⟩,(some ⟨ag,0,none⟩),0,[]⟩:a7×Nat×ZC×Option aG×Nat×List Int) ⟨dc,bJ _,rfl,(fun i=>bJ _),rfl,rfl,eg,dx,(((ib.ext e8).vN jj).ext gf),(ej.ext gf),Zr.zero⟩ G ⟨rfl,rfl,rfl,rfl,rfl,rfl,Fo⟩ ?_
 rintro⟨wr,k,kg,LA,lc,cs⟩ ⟨U,_,df,hB,fh,fp,cp,aa,b_2,b_4,zg⟩
 refine cP [(0,AT A n cap),(2,no g1 0),(3,AT none 0 0),(4,no g6 0),(5,AT LA k lc),(6,v4 k)] wr G ⟨rfl,rfl,rfl,rfl,rfl,rfl,Fo⟩ ?_
 have gb:=aa.block
 refine aH (aH ?_)
 by_cases np:k<n
 ·refine aJ (mv 2 G (pu (v:= v4 n) G (aN G G G true (cG (a:=k) (b:=n) G G) (aA (bB G (b8 (aK (aH (bG (aH ?_))))))))))
  obtain⟨fj,ft,fo,fe,fy,gi,ai⟩:=hl.at (i:=k) (by omega)
  have ny:ln ((Int.gcd (bQ (zs.take k)) (zs.getD k 0):Int))≤1048576:=a6 (fK _ _) (Nat.max_le.2 ⟨(gZ hln k),(a6 ai.ln (hmb k))⟩)
  have gk:ln ((eO (bQ (zs.take k)) (zs.getD k 0)))≤1048577:=((iR (bQ (zs.take k)) (zs.getD k 0)).ln_u (gZ hln k) (a6 ai.ln (hmb k)))
  have ll:ln ((gJ (bQ (zs.take k)) (zs.getD k 0)))≤1048577:=((iR (bQ (zs.take k)) (zs.getD k 0)).ln_v (gZ hln k) (a6 ai.ln (hmb k)))
  refine qH bR 13 [7,8,9] [10,11,12] [Is (J kg.s kg.A kg.n kg.c),Is (AT A n cap),Is (v4 k),Is (.pointer (some fj)),Is (.agg #[.bool ft,AT fo (ms.getD k 0) fe]),T3 (ZR w.heap.size ((Int.gcd (bQ (zs.take k)) (zs.getD k 0):Int))) (ZR w.heap.size ((eO (bQ (zs.take k)) (zs.getD k 0)))) (ZR w.heap.size ((gJ (bQ (zs.take k)) (zs.getD k 0)))),T3 (ZR w.heap.size ((Int.gcd (bQ (zs.take k)) (zs.getD k 0):Int))) (ZR w.heap.size ((eO (bQ (zs.take k)) (zs.getD k 0)))) (ZR w.heap.size ((gJ (bQ (zs.take k)) (zs.getD k 0)))),ZR w.heap.size ((Int.gcd (bQ (zs.take k)) (zs.getD k 0):Int)),ZR w.heap.size ((eO (bQ (zs.take k)) (zs.getD k 0))),ZR w.heap.size ((gJ (bQ (zs.take k)) (zs.getD k 0))),PR wr.heap.size 24 [F0,S0],PR wr.heap.size 24 [F0,S0],PR wr.heap.size 24 [F0,S0]] [[],[],[],[1,2],[3],[0,4],[5],[6],[6],[6],[],[],[]] [[],[],[],[1,2],[1,2,3],[0,1,2,3,4],[0,1,2,3,4,5],[0,1,2,3,4,5,6],[0,1,2,3,4,5,6],[0,1,2,3,4,5,6],[],[],[],[0,1,2,3,4,5,6,7,10,11,12],[0,1,2,3,4,5,6,7,8,10,11,12,13],[0,1,2,3,4,5,6,7,8,9,10,11,12,13,14]] G G ⟨fun _ _ h=>PR.old h,fun _ _ h=>PR.old h,fun _ _ h=>PR.old h,Fo⟩
   (aF G G (aC G G ?_) (aF G G (aC G G ?_) (aF G G (aC G G ?_) (aF G G (aC G G ?_) (aF G G (aC G G ?_) (aF G G (aC G G ?_) (aF G G (aC G G ?_) (cV G G (cY G ?_) (cV G G (cY G ?_) (cV G G (cY G ?_) (aF G G (mK G ?_) (aF G G (mK G ?_) (aF G G (mK G ?_) cE))))))))))))) ?_
  ·exact fun _ mp=>aB (lo a8 (b_4.ext mp) (O kg.s kg.A kg.n kg.c) G G G (aE G aD G))
  ·exact fun _ _=>aB (mv 1 G (aE G aD G))
  ·exact fun _ _=>aB (mv 1 G (aE G aD G))
  ·exact fun _ _=>dk G G (dk G G (aB (bI G G G d9 a8.size k G fj fy (aE G aD G))))
  ·intro _ ma
   have D:=U.trans ma
   refine dk G G (aB (aP G G (gi _ D _ _ a8) ?_))
   exact aE G aD rfl
  ·intro _ jo
   have D:=U.trans jo
   refine dk G G (dk G G (aB ?_))
   have nx:ln ((Int.gcd (bQ (zs.take k)) (zs.getD k 0):Int))≤1048576:=a6 (fK _ _) (Nat.max_le.2 ⟨(gZ hln k),(a6 ai.ln (hmb k))⟩)
   have nu:ln ((eO (bQ (zs.take k)) (zs.getD k 0)))≤1048577:=((iR (bQ (zs.take k)) (zs.getD k 0)).ln_u (gZ hln k) (a6 ai.ln (hmb k)))
   have nw:ln ((gJ (bQ (zs.take k)) (zs.getD k 0)))≤1048577:=((iR (bQ (zs.take k)) (zs.getD k 0)).ln_v (gZ hln k) (a6 ai.ln (hmb k)))
   refine cl (vs:= [J kg.s kg.A kg.n kg.c,.agg #[.bool ft,AT fo (ms.getD k 0) fe]]) D (PF D.size (zg.ext jo).zi (zg.le (a6 (gZ hln k) (by decide))) (ai.ext D) (a6 (hmb k) (by decide))) G (by kernel_rfl) fun _ _ me lj am=>?_
   obtain⟨_,_,_,rfl,⟨_,_,_,_,rfl,lm⟩,⟨_,_,_,_,rfl,mn⟩,⟨_,_,_,_,rfl,mo⟩⟩:=me
   exact aE G lj ⟨_,_,_,rfl,⟨_,_,_,_,rfl,lm⟩,⟨_,_,_,_,rfl,mn⟩,⟨_,_,_,_,rfl,mo⟩⟩
  ·intro _ _
   refine aO G G fun _ _ md _ gy=>?_
   obtain⟨_,_,_,rfl,⟨_,_,_,_,rfl,ga⟩,⟨_,_,_,_,rfl,gx⟩,⟨_,_,_,_,rfl,ie⟩⟩:=md
   have ga:=ga.ext gy
   have gx:=gx.ext gy
   have ie:=ie.ext gy
   refine aB (mv 1 G ?_)
   exact aE G aD ⟨_,_,_,rfl,⟨_,_,_,_,rfl,ga⟩,⟨_,_,_,_,rfl,gx⟩,⟨_,_,_,_,rfl,ie⟩⟩
  ·intro _ _
   refine aO G G fun _ _ ji _ cz=>?_
   obtain⟨_,_,_,rfl,⟨ja,jm,kc,ij,rfl,dy⟩,⟨_,_,_,_,rfl,fi⟩,⟨_,_,_,_,rfl,fk⟩⟩:=ji
   have dy:=dy.ext cz
   have fi:=fi.ext cz
   have fk:=fk.ext cz
   refine aB ?_
   exact⟨J ja jm kc ij,rfl,rfl,fun _=>by kernel_rfl,⟨_,_,_,_,rfl,dy⟩⟩
  ·intro _ _
   refine aO G G fun _ _ jf _ cx=>?_
   obtain⟨_,_,_,rfl,⟨_,_,_,_,rfl,el⟩,⟨jh,kw,jw,jt,rfl,dh⟩,⟨_,_,_,_,rfl,fq⟩⟩:=jf
   have el:=el.ext cx
   have dh:=dh.ext cx
   have fq:=fq.ext cx
   refine aB ?_
   exact⟨J jh kw jw jt,rfl,rfl,fun _=>by kernel_rfl,⟨_,_,_,_,rfl,dh⟩⟩
  ·intro _ _
   refine aO G G fun _ _ kt _ da=>?_
   obtain⟨_,_,_,rfl,⟨_,_,_,_,rfl,fc⟩,⟨_,_,_,_,rfl,ep⟩,⟨ik,kk,kz,ix,rfl,dr⟩⟩:=kt
   have fc:=fc.ext da
   have ep:=ep.ext da
   have dr:=dr.ext da
   refine aB ?_
   exact⟨J ik kk kz ix,rfl,rfl,fun _=>by kernel_rfl,⟨_,_,_,_,rfl,dr⟩⟩
  ·intro _ jz
   refine aB (dW G (z:= .agg #[F0,S0]) (vs:= [F0,S0]) (fun _=>by kernel_rfl) G fun _ _ nb=>?_)
   exact aE G nb.ext ⟨⟨_,rfl,by rw [←nb.at_];exact jz.size,nb.bk⟩,_,rfl,Nat.le_of_eq nb.at_⟩
  ·intro _ jl
   refine aB (dW G (z:= .agg #[F0,S0]) (vs:= [F0,S0]) (fun _=>by kernel_rfl) G fun _ _ nb=>?_)
   exact aE G nb.ext ⟨⟨_,rfl,by rw [←nb.at_];exact jl.size,nb.bk⟩,_,rfl,Nat.le_of_eq nb.at_⟩
  ·intro _ jq
   refine aB (dW G (z:= .agg #[F0,S0]) (vs:= [F0,S0]) (fun _=>by kernel_rfl) G fun _ _ nb=>?_)
   exact aE G nb.ext ⟨⟨_,rfl,by rw [←nb.at_];exact jq.size,nb.bk⟩,_,rfl,Nat.le_of_eq nb.at_⟩
  ·intro _ bd
   have D:=U.trans bd
   refine dk G G (dk G G (dk G G (dk G G (dk G G (aO G G fun _ _ il _ dd=>?_)))))
   obtain⟨_,_,_,rfl,⟨_,_,_,_,rfl,ey⟩,⟨_,_,_,_,rfl,fd⟩,⟨_,_,_,_,rfl,fg⟩⟩:=il
   have ey:=ey.ext dd
   have fd:=fd.ext dd
   have fg:=fg.ext dd
   refine aO G G fun _ _ ki _ cu=>?_
   obtain⟨_,_,_,rfl,⟨_,_,_,_,rfl,fm⟩,⟨_,_,_,_,rfl,fa⟩,⟨_,_,_,_,rfl,fb⟩⟩:=ki
   have fm:=fm.ext cu
   have fa:=fa.ext cu
   have fb:=fb.ext cu
   refine aO G G fun _ _ ku _ jy=>?_
   obtain⟨ao,au,av,aq,rfl,dn⟩:=ku
   have dn:=dn.ext jy
   refine aO G G fun _ _ jd _ kn=>?_
   obtain⟨az,bh,bg,bf,rfl,dv⟩:=jd
   have dv:=dv.ext kn
   refine aO G G fun _ _ io _ jv=>?_
   obtain⟨an,aw,bc,ba,rfl,ct⟩:=io
   have ct:=ct.ext jv
   refine aO G G fun _ _ ko _ iz=>?_
   obtain⟨V,rfl,aj,E⟩:=ko
   have E:=E.ext iz
   have my:g6<V:=d4 b_4.lt aj
   have bm:∀p,LA=some p→p.block≠V:=fun p hp=>by have:=(aa).block p hp;have:=aj;omega
   have aj:w.heap.size≤V:=a6 U.size aj
   refine aO G G fun _ _ jx _ jc=>?_
   obtain⟨W,rfl,ae,bv⟩:=jx
   have bv:=bv.ext jc
   have mx:g6<W:=d4 b_4.lt ae
   have bz:∀p,LA=some p→p.block≠W:=fun p hp=>by have:=(aa).block p hp;have:=ae;omega
   have ae:w.heap.size≤W:=a6 U.size ae
   refine aO G G fun _ _ kf _ kx=>?_
   obtain⟨M,rfl,ak,bt⟩:=kf
   have bt:=bt.ext kx
   have mq:g6<M:=d4 b_4.lt ak
   have bu:∀p,LA=some p→p.block≠M:=fun p hp=>by have:=(aa).block p hp;have:=ak;omega
   have ak:w.heap.size≤M:=a6 U.size ak
   refine aB ?_
   intro bi
   have mu:W≠V:=fun e=>bi 11 (by decide) 10 (by decide) (by decide) _ _ G G _ _ G G _ (bS G) (by rw [e];exact bS G)
   have mw:M≠V:=fun e=>bi 12 (by decide) 10 (by decide) (by decide) _ _ G G _ _ G G _ (bS G) (by rw [e];exact bS G)
   have mr:M≠W:=fun e=>bi 12 (by decide) 11 (by decide) (by decide) _ _ G G _ _ G G _ (bS G) (by rw [e];exact bS G)
   clear bi
   refine so a8 E (O ao au av aq) D aj G G G G fun _ ge H am=>?_
   have Y:=(bv.vN H)
   refine so a8 Y (O az bh bg bf) am ae G G G G fun _ go I dc=>?_
   have X:=((bt.vN H).vN I)
   refine so a8 X (O an aw bc ba) dc ak G G G G fun iw fx L ml=>(aR (cF (aK (aH (sr (mv 1 G (aA (bG ?_))))))))
   have nz:=(iR (bQ (zs.take k)) (zs.getD k 0)).ln_u2
   have ng:=hln k
   have mm:ln (gJ (bQ (zs.take k)) (zs.getD k 0))≤1048578:=by have:=((iR (bQ (zs.take k)) (zs.getD k 0)).ln_v (N:=1048577) (a6 (gZ hln k) (by decide)) (a6 (hln k) (by decide)));exact this
   refine cQ (T:=a7×Nat)
    (fun⟨wi,j⟩=> [(0,AT A n cap),(2,no g1 0),(3,AT none 0 0),(4,no g6 0),(5,AT LA k lc),(6,v4 k),(7,no V 0),(8,no W 0),(9,no M 0),(10,v4 j)])
    (fun⟨wi,j⟩=>wi)
    (fun⟨wi,j⟩=>(Ext w wi)∧(j≤k)∧(ag≤wi.heap.size)∧(Lz none 8388608 w.heap.size wi ag LA k lc (fB cs (eO (bQ (zs.take k)) (zs.getD k 0)) j))∧(Bk wi g1 24 [F0,S0])∧(Bk wi g6 24 (O kg.s kg.A kg.n kg.c))∧(Bk wi V 24 (O ao au av aq))∧(Bk wi W 24 (O az bh bg bf))∧(Bk wi M 24 (O an aw bc ba))∧(Zr wi w.heap.size kg.s kg.A kg.n kg.c (bQ (zs.take k)))∧(Zr wi w.heap.size ao au av aq ((Int.gcd (bQ (zs.take k)) (zs.getD k 0):Int)))∧(Zr wi w.heap.size az bh bg bf ((eO (bQ (zs.take k)) (zs.getD k 0))))∧(Zr wi w.heap.size an aw bc ba ((gJ (bQ (zs.take k)) (zs.getD k 0)))))
    (fun⟨wi,j⟩=>k-j)
    (⟨iw,0⟩:a7×Nat) ⟨ml,bJ _,(a6 (a6 (a6 (a6 cp bd.size) H.by_.size) I.by_.size) L.by_.size),(by rw [DK];exact ((((aa.ext bd).updT E H bm).updT Y I bz).updT X L bu)),((((b_2.ext bd).vN H).vN I).vN L),((((b_4.ext bd).vN H).vN I).vN L),((ge.vN I).vN L),(go.vN L),fx,((((zg.ext bd).updT E H).updT Y I).updT X L),(((dn.updT E H).updT Y I).updT X L),(((dv.updT E H).updT Y I).updT X L),(((ct.updT E H).updT Y I).updT X L)⟩ G ⟨rfl,rfl,rfl,rfl,rfl,rfl,rfl,rfl,rfl,rfl,Fo⟩ ?_
   rintro⟨wi,j⟩ ⟨U,hj,cp,aa,b_2,b_4,b_7,b_8,b_9,zz_4,zz_7,zz_8,zz_9⟩
   refine cP [(0,AT A n cap),(2,no g1 0),(3,AT none 0 0),(4,no g6 0),(5,AT LA k lc),(6,v4 k),(7,no V 0),(8,no W 0),(9,no M 0),(10,v4 j)] wi G ⟨rfl,rfl,rfl,rfl,rfl,rfl,rfl,rfl,rfl,rfl,Fo⟩ ?_
   have F:=aa.block
   refine aH (aH ?_)
   by_cases ni:j<k
   ·refine aJ (mv 2 G (pu (v:= v4 k) G (aN G G G true (cG (a:=j) (b:=k) G G) (aA (bB G (b8 (aK (aH (bG ?_)))))))))
    obtain⟨bj,dz,du,dl,cv,bo,ef,_,fz⟩:=(aa).at (i:=j) (by omega)
    have dw:=fz.zr
    have cg:ln ((fB cs (eO (bQ (zs.take k)) (zs.getD k 0)) j).getD j 0)≤3145730:=(by rw [xV (by omega)];have:=hB j;have:=kv k;omega)
    have kj:ln (((fB cs (eO (bQ (zs.take k)) (zs.getD k 0)) j).getD j 0)*(eO (bQ (zs.take k)) (zs.getD k 0)))≤4194307:=a6 (dR cg gk) (by decide)
    refine cU bR 9 [] [Is (AT LA k lc),Is (v4 j),Is (AT LA k lc),Is (v4 j),Is (.pointer (some bj)),Is (J dz du dl cv),Is (J az bh bg bf),ZR w.heap.size (((fB cs (eO (bQ (zs.take k)) (zs.getD k 0)) j).getD j 0)*(eO (bQ (zs.take k)) (zs.getD k 0))),Is (.pointer (some bj))] [[],[],[],[],[2,3],[4],[],[5,6],[0,1]] [[],[],[],[],[2,3],[2,3,4],[],[2,3,4,5,6],[0,1,2,3,4,5,6,7],[0,1,2,3,4,5,6,7,8]] rfl
     (aF G G (aC G G ?_) (aF G G (aC G G ?_) (aF G G (aC G G ?_) (aF G G (aC G G ?_) (aF G G (aC G G ?_) (aF G G (aC G G ?_) (aF G G (aC G G ?_) (aF G G (aC G G ?_) (aF G G (aC G G ?_) cE))))))))) ?_
    ·exact fun _ _=>aB (mv 1 G (aE G aD G))
    ·exact fun _ _=>aB (mv 1 G (aE G aD G))
    ·exact fun _ _=>aB (mv 1 G (aE G aD G))
    ·exact fun _ _=>aB (mv 1 G (aE G aD G))
    ·exact fun _ _=>dk G G (dk G G (aB (bI G G G d9 a8.size j G bj bo (aE G aD G))))
    ·exact fun _ jr=>dk G G (aB (aP G G (ef _ jr _ _ a8) (aE G aD G)))
    ·exact fun _ je=>aB (lo a8 (b_8.ext je) (O az bh bg bf) G G G (aE G aD G))
    ·intro _ dt
     have D:=U.trans dt
     refine dk G G (dk G G (aB ?_))
     have nh:ln (((fB cs (eO (bQ (zs.take k)) (zs.getD k 0)) j).getD j 0)*(eO (bQ (zs.take k)) (zs.getD k 0)))≤4194307:=a6 (dR cg gk) (by decide)
     refine cl (vs:= [J dz du dl cv,J az bh bg bf]) D (k9 D.size (dw.ext dt).zi (dw.le (aL cg G)) (zz_8.ext dt).zi (zz_8.le (aL gk G))) G (by kernel_rfl) fun _ _ ip ig am=>?_
     obtain⟨_,_,_,_,rfl,iq⟩:=ip
     exact aE G ig ⟨_,_,_,_,rfl,iq⟩
    ·exact fun _ _=>dk G G (dk G G (aB (bI G G G d9 a8.size j G bj bo (aE G aD G))))
    ·intro _ q
     have D:=U.trans q
     refine dk G G (dk G G (dk G G (dk G G (dk G G (dk G G (dk G G (aO G G fun _ _ iy _ jb=>?_)))))))
     obtain⟨ir,lg,jp,kq,rfl,cm⟩:=iy
     have cm:=cm.ext jb
     refine dk G G (aB ?_)
     have cy:=(aa.ext q)
     obtain⟨_,ab⟩:=cy.own
     refine J5 (e:=⟨ir,lg,jp,kq⟩) (z:=((fB cs (eO (bQ (zs.take k)) (zs.getD k 0)) j).getD j 0)*(eO (bQ (zs.take k)) (zs.getD k 0))) G G G bo (by omega) cy (bS cm) (cm.le (aL kj G)) fun fv gj f=>?_
     have am:=f.ext D (fun p hp=>by have:=F p hp;omega)
     have cn:ag≤fv.heap.size:=a6 (a6 cp q.size) f.size
     refine aR (cF (bM (aK (aJ (mv 1 G (aT G G G ((j+1:Nat):Int) (bK (a:=j) (b:=1) G G) (mv 1 G (aR (bX (⟨fv,j+1⟩:a7×Nat) ⟨am,(by omega),cn,(by rw [←DL (by omega)];exact gj),((b_2.ext q).updO f (fun p hp=>by have:=F p hp;omega)),((b_4.ext q).updO f (fun p hp=>by have:=F p hp;omega)),((b_7.ext q).updO f bm),((b_8.ext q).updO f bz),((b_9.ext q).updO f bu),((zz_4.ext q).updOT ab f),((zz_7.ext q).updOT ab f),((zz_8.ext q).updOT ab f),((zz_9.ext q).updOT ab f)⟩ (show k-(j+1)<k-j by omega) G ⟨rfl,rfl,rfl,rfl,rfl,rfl,rfl,rfl,rfl,rfl,Fo⟩)))))))))
   ·refine aJ (mv 2 G (pu (v:= v4 k) G (aN G G G false (cL (a:=j) (b:=k) G G) (aA (aV G (cR (cK (cN (cO (aK (sr (mv 1 G (lo a8 b_9 (O an aw bc ba) G G G ?_)))))))))))))
    refine fA G G (k:=1) (e:=24) (O an aw bc ba) (fun _=>by kernel_rfl) fun br _ nb=>?_
    have dm:=nb.bk
    have mb:w.heap.size≤br:=by rw [←nb.at_];exact U.size
    have nj:V<br:=by rw [←nb.at_];exact b_7.lt
    have nk:W<br:=by rw [←nb.at_];exact b_8.lt
    have mz:M<br:=by rw [←nb.at_];exact b_9.lt
    have gt:∀p,LA=some p→p.block≠br:=fun p hp=>by have:=(aa).block p hp;have:=nb.at_;omega
    have o:=nb.ext
    clear nb
    have D:=U.trans o
    have de:=(aa.ext o)
    obtain⟨_,eh⟩:=de.own
    refine AY (e:=⟨an,aw,bc,ba⟩) (z:=(gJ (bQ (zs.take k)) (zs.getD k 0))) G G G de (a6 cp o.size) dm (bS (zz_9.ext o)) (zz_9.le (aL ll G)) (by omega) (by decide) fun iu ky jg dg Z bp=>?_
    have am:=Z.ext D (fun p hp=>by have:=F p hp;omega)
    have co:ag≤jg.heap.size:=a6 (a6 cp o.size) Z.size
    have lu:=lP bp (b_7.ext o).lt bm
    have mg:=lP bp (b_8.ext o).lt bz
    have lp:=lP bp (b_9.ext o).lt bu
    have mf:=lP bp dm.lt gt
    have ei:=dg.block
    refine mv 1 G (aA (aJ (lo a8 ((b_7.ext o).updO Z bm) (O ao au av aq) G G G ?_)))
    have ch:=((b_4.ext o).updO Z (fun p hp=>by have:=F p hp;omega))
    refine so a8 ch (O ao au av aq) am ez G G G G fun jk ia cj dc=>(aR (bM (aK (aJ (mv 1 G (aT G G G ((k+1:Nat):Int) (bK (a:=k) (b:=1) G G) (mv 1 G (aR (bX (⟨jk,k+1,⟨ao,au,av,aq⟩,iu,ky,_⟩:a7×Nat×ZC×Option aG×Nat×List Int) ⟨dc,(by omega),(by rw [List.length_append,DM,df];rfl),(FI (show j=k by omega) (by rw [hl.len];omega) df hB (iR (bQ (zs.take k)) (zs.getD k 0)) mm),(FG (show j=k by omega) (by rw [hl.len];omega) df fh (iR (bQ (zs.take k)) (zs.getD k 0))),(FH (show j=k by omega) (by rw [hl.len];omega) df fp (iR (bQ (zs.take k)) (zs.getD k 0))),(a6 co cj.by_.size),(dg.updT ch cj (fun p hp=>by have:=ei p hp;omega)),(((b_2.ext o).updO Z (fun p hp=>by have:=F p hp;omega)).vN cj),ia,((((zz_7.ext o).updOT eh Z).updT ch cj)).cast (sB (by rw [hl.len];omega))⟩ (show n-(k+1)<n-k by omega) G ⟨rfl,rfl,rfl,rfl,rfl,rfl,Fo⟩)))))))))
 ·refine aJ (mv 2 G (pu (v:= v4 n) G (aN G G G false (cL (a:=k) (b:=n) G G) (aA (aV G (cR (cK (cN (cO (aK (sr (lo a8 b_4 (O kg.s kg.A kg.n kg.c) G G G (mv 1 G ?_)))))))))))))
  have ci:=b_2
  refine so a8 ci (O kg.s kg.A kg.n kg.c) U mj G G G G fun _ fw ew D=>(mv 1 G (aA (bD (bC [J kg.s kg.A kg.n kg.c,AT LA k lc] G ⟨⟨_,rfl,aW a8 fw (O kg.s kg.A kg.n kg.c) G (bq G) rfl⟩,rfl,Fo⟩ ?_))))
  have ar:k=n:=by omega
  exact⟨cs,⟨by rw [←nA hl,←ar];exact fp,by rw [df,ar],by rw [←nA hl,←ar];exact fh,fun i=>a6 (hB i) (by have:=kv k;omega)⟩,_,rfl,⟨_,_,rfl,⟨_,_,_,_,rfl,(((zg.updT ci ew)).cast (show bQ (zs.take k)=bQ zs by rw [ar,nA hl])).mono hb⟩,⟨_,_,by rw [ar],by rw [←ar];exact ((aa.updT ci ew (fun p hp=>by have:=gb p hp;omega))).mono (by decide) hb (by omega)⟩⟩,D⟩
theorem PH {nb:Nat}{n:Int}(hb:b≤w.heap.size)(hx:Zi w sa Aa na ca x)(la:na≤16777216)(hm:Zi w sb Ab nb cb m)(lb:nb≤16777216)(hy:Zi w sf Af nf cf y)(lf:nf≤16777216)(hn:Zi w sd Ad nd cd n)(ld:nd≤16777216)(h0:m=0∨n=0):aQ aM 42 #[J sa Aa na ca,J sb Ab nb cb,J sf Af nf cf,J sd Ad nd cd] w (Gv w (T3 (ZR b (0)) (ZR b (0)) (Is (v4 4)))):=by
 refine Calls.mono (R:=Gv w (T3 (ZR w.heap.size (0)) (ZR w.heap.size (0)) (Is (v4 4)))) ?_ (Gv.imp (T3.imp (ZR.imp hb) (ZR.imp hb) Is.imp))
 have Lx:ln x≤16777216:=a6 hx.ln la
 have Lm:ln m≤16777216:=a6 hm.ln lb
 have Ly:ln y≤16777216:=a6 hy.ln lf
 have Ln:ln n≤16777216:=a6 hn.ln ld
 refine bP Tryz.func42 G (n:=94) G (bq G) (args:= [J sa Aa na ca,J sb Ab nb cb,J sf Af nf cf,J sd Ad nd cd]) (bH [(0,J sa Aa na ca),(1,J sb Ab nb cb),(2,J sf Af nf cf),(3,J sd Ad nd cd)] ⟨rfl,rfl,rfl,rfl,Fo⟩ (sr (bx (O sa Aa na ca) (Ext.refl w) G G G fun _ _ bf _ _ bh=>(d5 (O sb Ab nb cb) bh bf.lt G G G fun _ _ X _ _ _ bg=>(d5 (O sf Af nf cf) bg X.lt G G G fun _ _ ag _ _ av ba=>(d5 (O sd Ad nd cd) ba ag.lt G G G fun _ _ H _ _ ak bd=>(bF [F0,S0] bd H.lt (fun _=>by kernel_rfl) G fun _ _ o I _ W bi=>(bF [F0,S0] bi o.lt (fun _=>by kernel_rfl) G fun _ _ M L _ q F=>(mv 1 G (aA (aH (aH ?_))))))))))))
 by_cases aj:m=0
 ·refine aJ (lo a8 (X.ext (av.t (ak.t (W.t q)))) (O sb Ab nb cb) G G G (cl (vs:= [J sb Ab nb cb]) F (eN (hm.ext F) (aL lb G)) G (by kernel_rfl) fun _ aw az ao E=>?_))
  obtain rfl:=az
  refine aN G G G true (iY aj) (mv 4 G (pu (v:= By) G (aA (bB G (sr (pu (v:= .agg #[F0,S0]) G (pu (v:= .agg #[F0,S0]) G ?_)))))))
  have h:=(o.ext (q.t ao))
  refine so a8 h [F0,S0] E I G G G G fun _ ah V U=>?_
  have p:=((M.ext ao).vN V)
  refine so a8 p [F0,S0] U L G G G G fun _ aq aa Y=>(mv 1 G (aA (bD (cT (bC [.agg #[F0,S0],.agg #[F0,S0],v4 4] G ⟨⟨_,rfl,aW a8 (ah.vN aa) [F0,S0] G (bq G) rfl⟩,⟨_,rfl,aW a8 aq [F0,S0] G (bq G) rfl⟩,rfl,Fo⟩ ?_)))))
  exact⟨_,rfl,⟨_,_,_,rfl,⟨_,_,_,_,rfl,(((Zr.zero (w:=aw) (base:=w.heap.size)).updT h V).updT p aa)⟩,⟨_,_,_,_,rfl,(((Zr.zero (w:=aw) (base:=w.heap.size)).updT h V).updT p aa)⟩,rfl⟩,Y⟩
 ·refine aJ (lo a8 (X.ext (av.t (ak.t (W.t q)))) (O sb Ab nb cb) G G G (cl (vs:= [J sb Ab nb cb]) F (eN (hm.ext F) (aL lb G)) G (by kernel_rfl) fun _ _ bj ab E=>?_))
  obtain rfl:=bj
  refine aN G G G false (fE aj) (mv 1 G (lo a8 (H.ext (W.t (q.t ab))) (O sd Ad nd cd) G G G (cl (vs:= [J sd Ad nd cd]) E (eN (hn.ext E) (aL ld G)) G (by kernel_rfl) fun _ am bc au U=>?_)))
  obtain rfl:=bc
  refine aN G G G true (iY (by omega)) (pu (v:= By) G (aA (bB G (sr (pu (v:= .agg #[F0,S0]) G (pu (v:= .agg #[F0,S0]) G ?_))))))
  have D:=(o.ext (q.t (ab.t au)))
  refine so a8 D [F0,S0] U I G G G G fun _ ar Z Y=>?_
  have f:=((M.ext (ab.t au)).vN Z)
  refine so a8 f [F0,S0] Y L G G G G fun _ an ae ai=>(mv 1 G (aA (bD (cT (bC [.agg #[F0,S0],.agg #[F0,S0],v4 4] G ⟨⟨_,rfl,aW a8 (ar.vN ae) [F0,S0] G (bq G) rfl⟩,⟨_,rfl,aW a8 an [F0,S0] G (bq G) rfl⟩,rfl,Fo⟩ ?_)))))
  exact⟨_,rfl,⟨_,_,_,rfl,⟨_,_,_,_,rfl,(((Zr.zero (w:=am) (base:=w.heap.size)).updT D Z).updT f ae)⟩,⟨_,_,_,_,rfl,(((Zr.zero (w:=am) (base:=w.heap.size)).updT D Z).updT f ae)⟩,rfl⟩,ai⟩
theorem F4 {nb:Nat}{n:Int}(hb:b≤w.heap.size)(hx:Zi w sa Aa na ca x)(la:na≤16777216)(hm:Zi w sb Ab nb cb m)(lb:nb≤16777216)(hy:Zi w sf Af nf cf y)(lf:nf≤16777216)(hn:Zi w sd Ad nd cd n)(ld:nd≤16777216)(hm0:m≠0)(hn0:n≠0)(hd:¬(Int.gcd m n:Int)∣y-x):aQ aM 42 #[J sa Aa na ca,J sb Ab nb cb,J sf Af nf cf,J sd Ad nd cd] w (Gv w (T3 (ZR b (0)) (ZR b (0)) (Is (v4 6)))):=by
 refine Calls.mono (R:=Gv w (T3 (ZR w.heap.size (0)) (ZR w.heap.size (0)) (Is (v4 6)))) ?_ (Gv.imp (T3.imp (ZR.imp hb) (ZR.imp hb) Is.imp))
 have Lx:ln x≤16777216:=a6 hx.ln la
 have Lm:ln m≤16777216:=a6 hm.ln lb
 have Ly:ln y≤16777216:=a6 hy.ln lf
 have Ln:ln n≤16777216:=a6 hn.ln ld
 refine bP Tryz.func42 G (n:=94) G (bq G) (args:= [J sa Aa na ca,J sb Ab nb cb,J sf Af nf cf,J sd Ad nd cd]) (bH [(0,J sa Aa na ca),(1,J sb Ab nb cb),(2,J sf Af nf cf),(3,J sd Ad nd cd)] ⟨rfl,rfl,rfl,rfl,Fo⟩ (sr (bx (O sa Aa na ca) (Ext.refl w) G G G fun _ _ cj _ _ dg=>(d5 (O sb Ab nb cb) dg cj.lt G G G fun _ _ av _ _ e8 dd=>(d5 (O sf Af nf cf) dd av.lt G G G fun _ _ ab _ _ aw da=>(d5 (O sd Ad nd cd) da ab.lt G G G fun _ _ D _ _ Y dc=>(bF [F0,S0] dc D.lt (fun _=>by kernel_rfl) G fun _ _ ag bp _ q dm=>(bF [F0,S0] dm ag.lt (fun _=>by kernel_rfl) G fun _ _ ai bz _ o ct=>(mv 1 G (aA (aH (sr (lo a8 (av.ext (aw.t (Y.t (q.t o)))) (O sb Ab nb cb) G G G ?_)))))))))))))
 refine cl (vs:= [J sb Ab nb cb]) ct (eN (hm.ext ct) (aL lb G)) G (by kernel_rfl) fun _ _ cz f ch=>?_
 obtain rfl:=cz
 refine aN G G G false (fE hm0) (mv 1 G (lo a8 (D.ext (q.t (o.t f))) (O sd Ad nd cd) G G G (cl (vs:= [J sd Ad nd cd]) ch (eN (hn.ext ch) (aL ld G)) G (by kernel_rfl) fun _ _ cy h X=>?_)))
 obtain rfl:=cy
 refine aN G G G false (fE hn0) (pu (v:= BY) G (aA (aV G (b8 (aK (sr (lo a8 (av.ext (aw.t (Y.t (q.t (o.t (f.t h)))))) (O sb Ab nb cb) G G G (lo a8 (D.ext (q.t (o.t (f.t h)))) (O sd Ad nd cd) G G G ?_))))))))
 have cx:ln ((Int.gcd m n:Int))≤16777216:=a6 (fK _ _) (Nat.max_le.2 ⟨a6 Lm (by decide),a6 Ln (by decide)⟩)
 refine cl (vs:= [J sb Ab nb cb,J sd Ad nd cd]) X (nO X.size (hm.ext X) (aL lb G) (hn.ext X) (aL ld G)) G (by kernel_rfl) fun _ _ cv E df=>?_
 obtain⟨ar,au,ak,az,rfl,co⟩:=cv
 refine bF [F0,S0] df (ai.ext (f.t (h.t E))).lt (fun _=>by kernel_rfl) G fun _ _ aj cm _ V cg=>(so a8 aj (O ar au ak az) cg cm G G G G fun _ ah I p=>(aA (sr (lo a8 ((ab.ext (Y.t (q.t (o.t (f.t (h.t (E.t V))))))).vN I) (O sf Af nf cf) G G G (lo a8 ((cj.ext (e8.t (aw.t (Y.t (q.t (o.t (f.t (h.t (E.t V))))))))).vN I) (O sa Aa na ca) G G G ?_)))))
 have de:ln (y-x)≤16777217:=a6 (gG Ly Lx) (by decide)
 refine cl (vs:= [J sf Af nf cf,J sa Aa na ca]) p (sC p.size (hy.ext p) (aL lf G) (hx.ext p) (aL la G)) G (by kernel_rfl) fun _ _ dh M bi=>?_
 obtain⟨bd,am,an,ba,rfl,cn⟩:=dh
 refine bF [F0,S0] bi (ah.ext M).lt (fun _=>by kernel_rfl) G fun _ _ W aa _ L bt=>(so a8 W (O bd am an ba) bt aa G G G G fun _ Z H ae=>(aA (sr (lo a8 Z (O bd am an ba) G G G (lo a8 ((ah.ext (M.t L)).vN H) (O ar au ak az) G G G (cl (vs:= [J bd am an ba,J ar au ak az]) ae (PN ae.size ((cn.ext L).updT W H).zi (cn.le (aL de G)) ((((co.ext V).updT aj I).ext (M.t L)).updT W H).zi (co.le (aL cx G)) (nM hm0) (DQ hd)) G (by kernel_rfl) fun _ _ dl aq bv=>?_))))))
 obtain⟨_,_,rfl,⟨bm,bf,bo,ck,rfl,_⟩,rfl⟩:=dl
 refine mv 1 G (pu (v:= J bm bf bo ck) G (pu (v:= v4 8) G ?_))
 have cu:=(Z.ext aq)
 refine so a8 cu (O bm bf bo ck) bv aa G G G G fun bh _ bu br=>(mv 1 G (aA (aH (sr (mv 1 G (pu (v:= By) G (aA (bB G (sr (pu (v:= .agg #[F0,S0]) G (pu (v:= .agg #[F0,S0]) G ?_)))))))))))
 have U:=((((((ag.ext (o.t (f.t (h.t (E.t V))))).vN I).ext (M.t L)).vN H).ext aq).vN bu)
 refine so a8 U [F0,S0] br bp G G G G fun _ bj bc cp=>?_
 have F:=(((((((ai.ext (f.t (h.t (E.t V)))).vN I).ext (M.t L)).vN H).ext aq).vN bu).vN bc)
 refine so a8 F [F0,S0] cp bz G G G G fun _ bg ao ci=>(mv 1 G (aA (bD (cT (bC [.agg #[F0,S0],.agg #[F0,S0],v4 6] G ⟨⟨_,rfl,aW a8 (bj.vN ao) [F0,S0] G (bq G) rfl⟩,⟨_,rfl,aW a8 bg [F0,S0] G (bq G) rfl⟩,rfl,Fo⟩ ?_)))))
 exact⟨_,rfl,⟨_,_,_,rfl,⟨_,_,_,_,rfl,(((Zr.zero (w:=bh) (base:=w.heap.size)).updT U bc).updT F ao)⟩,⟨_,_,_,_,rfl,(((Zr.zero (w:=bh) (base:=w.heap.size)).updT U bc).updT F ao)⟩,rfl⟩,ci⟩
theorem yF {nb:Nat}{n:Int}(hb:b≤w.heap.size)(hx:Zi w sa Aa na ca x)(la:na≤16777216)(hm:Zi w sb Ab nb cb m)(lb:nb≤16777216)(hy:Zi w sf Af nf cf y)(lf:nf≤16777216)(hn:Zi w sd Ad nd cd n)(ld:nd≤16777216)(hm0:m≠0)(hn0:n≠0)(d1:m∣x-s)(d2:n∣y-s):aQ aM 42 #[J sa Aa na ca,J sb Ab nb cb,J sf Af nf cf,J sd Ad nd cd] w (Gv w (T3 (ZR b (s%(Int.lcm m n:Int))) (ZR b ((Int.lcm m n:Int))) (Is (v4 0)))):=by
 refine Calls.mono (R:=Gv w (T3 (ZR w.heap.size (s%(Int.lcm m n:Int))) (ZR w.heap.size ((Int.lcm m n:Int))) (Is (v4 0)))) ?_ (Gv.imp (T3.imp (ZR.imp hb) (ZR.imp hb) Is.imp))
 have Lx:ln x≤16777216:=a6 hx.ln la
 have Lm:ln m≤16777216:=a6 hm.ln lb
 have Ly:ln y≤16777216:=a6 hy.ln lf
 have Ln:ln n≤16777216:=a6 hn.ln ld
 refine bP Tryz.func42 G (n:=94) G (bq G) (args:= [J sa Aa na ca,J sb Ab nb cb,J sf Af nf cf,J sd Ad nd cd]) (bH [(0,J sa Aa na ca),(1,J sb Ab nb cb),(2,J sf Af nf cf),(3,J sd Ad nd cd)] ⟨rfl,rfl,rfl,rfl,Fo⟩ (sr (bx (O sa Aa na ca) (Ext.refl w) G G G fun _ _ mb _ _ vw=>(d5 (O sb Ab nb cb) vw mb.lt G G G fun _ _ fm _ _ e8 ww=>(d5 (O sf Af nf cf) ww fm.lt G G G fun _ _ kf _ _ du wg=>(d5 (O sd Ad nd cd) wg kf.lt G G G fun _ _ dz _ _ dd wm=>(bF [F0,S0] wm dz.lt (fun _=>by kernel_rfl) G fun vm _ kq kw _ bo wp=>(bF [F0,S0] wp kq.lt (fun _=>by kernel_rfl) G fun py _ jp ju _ bh ou=>(mv 1 G (aA (aH (sr (lo a8 (fm.ext (du.t (dd.t (bo.t bh)))) (O sb Ab nb cb) G G G ?_)))))))))))))
 refine cl (vs:= [J sb Ab nb cb]) ou (eN (hm.ext ou) (aL lb G)) G (by kernel_rfl) fun _ _ wu ah qn=>?_
 obtain rfl:=wu
 refine aN G G G false (fE hm0) (mv 1 G (lo a8 (dz.ext (bo.t (bh.t ah))) (O sd Ad nd cd) G G G (cl (vs:= [J sd Ad nd cd]) qn (eN (hn.ext qn) (aL ld G)) G (by kernel_rfl) fun _ _ we bf ir=>?_)))
 obtain rfl:=we
 refine aN G G G false (fE hn0) (pu (v:= BY) G (aA (aV G (b8 (aK (sr (lo a8 (fm.ext (du.t (dd.t (bo.t (bh.t (ah.t bf)))))) (O sb Ab nb cb) G G G (lo a8 (dz.ext (bo.t (bh.t (ah.t bf)))) (O sd Ad nd cd) G G G ?_))))))))
 have ma:ln ((Int.gcd m n:Int))≤16777216:=a6 (fK _ _) (Nat.max_le.2 ⟨a6 Lm (by decide),a6 Ln (by decide)⟩)
 refine cl (vs:= [J sb Ab nb cb,J sd Ad nd cd]) ir (nO ir.size (hm.ext ir) (aL lb G) (hn.ext ir) (aL ld G)) G (by kernel_rfl) fun _ _ vr cg vv=>?_
 obtain⟨cx,ct,cp,cv,rfl,fo⟩:=vr
 refine bF [F0,S0] vv (jp.ext (ah.t (bf.t cg))).lt (fun _=>by kernel_rfl) G fun _ _ el mp _ bm pj=>(so a8 el (O cx ct cp cv) pj mp G G G G fun _ fd bg fa=>(aA (sr (lo a8 ((kf.ext (dd.t (bo.t (bh.t (ah.t (bf.t (cg.t bm))))))).vN bg) (O sf Af nf cf) G G G (lo a8 ((mb.ext (e8.t (du.t (dd.t (bo.t (bh.t (ah.t (bf.t (cg.t bm))))))))).vN bg) (O sa Aa na ca) G G G ?_)))))
 have sz:ln (y-x)≤16777217:=a6 (gG Ly Lx) (by decide)
 refine cl (vs:= [J sf Af nf cf,J sa Aa na ca]) fa (sC fa.size (hy.ext fa) (aL lf G) (hx.ext fa) (aL la G)) G (by kernel_rfl) fun _ _ vu ae oy=>?_
 obtain⟨ll,lj,lg,lp,rfl,tc⟩:=vu
 refine bF [F0,S0] oy (fd.ext ae).lt (fun _=>by kernel_rfl) G fun wy _ dc kv _ ab ny=>(so a8 dc (O ll lj lg lp) ny kv G G G G fun _ kn Z ki=>(aA (sr (lo a8 kn (O ll lj lg lp) G G G (lo a8 ((fd.ext (ae.t ab)).vN Z) (O cx ct cp cv) G G G ?_)))))
 have nu:ln ((y-x).tdiv (Int.gcd m n:Int))≤16777217:=a6 (fC _ _) sz
 refine cl (vs:= [J ll lj lg lp,J cx ct cp cv]) ki (nP ki.size ((tc.ext ab).updT dc Z).zi (tc.le (aL sz G)) ((((fo.ext bm).updT el bg).ext (ae.t ab)).updT dc Z).zi (fo.le (aL ma G)) (nM hm0) (DR (uY d1 d2))) G (by kernel_rfl) fun _ _ vt bj nz=>?_
 obtain⟨_,_,rfl,⟨iw,ix,iu,iq,rfl,mw⟩,rfl⟩:=vt
 refine mv 1 G (pu (v:= J iw ix iu iq) G (pu (v:= v4 0) G ?_))
 have fc:=(kn.ext bj)
 refine so a8 fc (O iw ix iu iq) nz kv G G G G fun wk jv bi fh=>(mv 1 G (aA (aH (sr (mv 1 G (pu (v:= BY) G (aA (aV G (b8 (aK (aH ?_)))))))))))
 have HC:=G6 hm0 hn0
 have lv:ln ((Int.natAbs m:Int))≤16777216:=(by rw [fQ];exact Lm)
 have ve:ln ((Int.natAbs m:Int).tdiv (Int.gcd m n:Int))≤16777216:=a6 (fC _ _) lv
 refine cU bR 8 [5,6] [Is (J sb Ab nb cb),ZR w.heap.size ((Int.natAbs m:Int)),Is (J cx ct cp cv),T2 (ZR w.heap.size ((Int.natAbs m:Int).tdiv (Int.gcd m n:Int))) (Is (v4 0)),T2 (ZR w.heap.size ((Int.natAbs m:Int).tdiv (Int.gcd m n:Int))) (Is (v4 0)),ZR w.heap.size ((Int.natAbs m:Int).tdiv (Int.gcd m n:Int)),Is (v4 0),PR wk.heap.size 24 [F0,S0]] [[],[0],[],[1,2],[3],[4],[4],[]] [[],[0],[],[0,1,2],[0,1,2,3],[0,1,2,3,4],[0,1,2,3,4],[],[0,1,2,3,4,5,7],[0,1,2,3,4,5,6,7,8]] rfl
  (aF G G (aC G G ?_) (aF G G (aC G G ?_) (aF G G (aC G G ?_) (aF G G (aC G G ?_) (aF G G (aC G G ?_) (cV G G (cY G ?_) (cV G G (cY G ?_) (aF G G (aC G G ?_) cE)))))))) ?_
 ·exact fun _ wh=>aB (lo a8 (((((((fm.ext (du.t (dd.t (bo.t (bh.t (ah.t (bf.t (cg.t bm)))))))).vN bg).ext (ae.t ab)).vN Z).ext bj).vN bi).ext wh) (O sb Ab nb cb) G G G (aE G aD G))
 ·intro _ vz
  have aq:=fh.trans vz
  refine dk G G (aB ?_)
  have xo:ln ((Int.natAbs m:Int))≤16777216:=(by rw [fQ];exact Lm)
  refine cl (vs:= [J sb Ab nb cb]) aq (mN aq.size (hm.ext aq) (aL lb G)) G (by kernel_rfl) fun _ _ oz mo ci=>?_
  obtain⟨_,_,_,_,rfl,ua⟩:=oz
  exact aE G mo ⟨_,_,_,_,rfl,ua⟩
 ·exact fun _ vj=>aB (lo a8 (((((fd.ext (ae.t ab)).vN Z).ext bj).vN bi).ext vj) (O cx ct cp cv) G G G (aE G aD G))
 ·intro _ jw
  have aq:=fh.trans jw
  refine aO G G fun _ _ ur _ mj=>?_
  obtain⟨qg,ot,ow,mt,rfl,ef⟩:=ur
  have ef:=ef.ext mj
  refine dk G G (aB ?_)
  have xg:ln ((Int.natAbs m:Int).tdiv (Int.gcd m n:Int))≤16777216:=a6 (fC _ _) lv
  refine cl (vs:= [J qg ot ow mt,J cx ct cp cv]) aq (nP aq.size ef.zi (ef.le (aL lv G)) (((((((fo.ext bm).updT el bg).ext (ae.t ab)).updT dc Z).ext bj).updT fc bi).ext jw).zi (fo.le (aL ma G)) (nM hm0) (H7 (Int.gcd_dvd_left m n))) G (by kernel_rfl) fun _ _ sc rm ci=>?_
  obtain⟨_,_,rfl,⟨_,_,_,_,rfl,ut⟩,rfl⟩:=sc
  exact aE G rm ⟨_,_,rfl,⟨_,_,_,_,rfl,ut⟩,rfl⟩
 ·intro _ _
  refine aO G G fun _ _ np _ oo=>?_
  obtain⟨_,_,rfl,⟨_,_,_,_,rfl,ga⟩,rfl⟩:=np
  have ga:=ga.ext oo
  refine aB (mv 1 G ?_)
  exact aE G aD ⟨_,_,rfl,⟨_,_,_,_,rfl,ga⟩,rfl⟩
 ·intro _ _
  refine aO G G fun _ _ qw _ pd=>?_
  obtain⟨_,_,rfl,⟨px,uq,mr,pn,rfl,gf⟩,rfl⟩:=qw
  have gf:=gf.ext pd
  refine aB ?_
  exact⟨J px uq mr pn,rfl,rfl,fun _=>by kernel_rfl,⟨_,_,_,_,rfl,gf⟩⟩
 ·intro _ _
  refine aO G G fun _ _ qc _ uv=>?_
  obtain⟨_,_,rfl,⟨_,_,_,_,rfl,jf⟩,rfl⟩:=qc
  have jf:=jf.ext uv
  refine aB ?_
  exact⟨v4 0,rfl,rfl,fun _=>by kernel_rfl,rfl⟩
 ·intro _ ph
  refine aB (dW G (z:= .agg #[F0,S0]) (vs:= [F0,S0]) (fun _=>by kernel_rfl) G fun _ _ nb=>?_)
  exact aE G nb.ext ⟨_,rfl,by rw [←nb.at_];exact ph.size,nb.bk⟩
 ·intro _ E
  have aq:=fh.trans E
  refine dk G G (aO G G fun _ _ pk _ ss=>?_)
  obtain⟨_,_,_,_,rfl,ko⟩:=pk
  have ko:=ko.ext ss
  refine dk G G (aO G G fun _ _ qx _ rt=>?_)
  obtain⟨_,_,rfl,⟨_,_,_,_,rfl,kj⟩,rfl⟩:=qx
  have kj:=kj.ext rt
  refine aO G G fun _ _ ml _ tn=>?_
  obtain⟨_,_,rfl,⟨_,_,_,_,rfl,jm⟩,rfl⟩:=ml
  have jm:=jm.ext tn
  refine aO G G fun _ _ ug _ ud=>?_
  obtain⟨ip,ia,ge,ft,rfl,ew⟩:=ug
  have ew:=ew.ext ud
  refine dk G G (aO G G fun _ _ tb _ sy=>?_)
  obtain⟨gb,rfl,cj,ag⟩:=tb
  have ag:=ag.ext sy
  have xa:wy<gb:=d4 jv.lt cj
  have cj:w.heap.size≤gb:=a6 fh.size cj
  refine aB (so a8 ag (O ip ia ge ft) aq cj G G G G fun mq gg F ci=>(mv 1 G (aR (cF (aK (aH ?_))))))
  have fx:ln ((Int.natAbs n:Int))≤16777216:=(by rw [fQ];exact Ln)
  have bp:ln ((Int.natAbs n:Int).tdiv (Int.gcd m n:Int))≤16777216:=a6 (fC _ _) fx
  refine cU bR 8 [5,6] [Is (J sd Ad nd cd),ZR w.heap.size ((Int.natAbs n:Int)),Is (J cx ct cp cv),T2 (ZR w.heap.size ((Int.natAbs n:Int).tdiv (Int.gcd m n:Int))) (Is (v4 0)),T2 (ZR w.heap.size ((Int.natAbs n:Int).tdiv (Int.gcd m n:Int))) (Is (v4 0)),ZR w.heap.size ((Int.natAbs n:Int).tdiv (Int.gcd m n:Int)),Is (v4 0),PR mq.heap.size 24 [F0,S0]] [[],[0],[],[1,2],[3],[4],[4],[]] [[],[0],[],[0,1,2],[0,1,2,3],[0,1,2,3,4],[0,1,2,3,4],[],[0,1,2,3,4,5,7],[0,1,2,3,4,5,6,7,8]] rfl
   (aF G G (aC G G ?_) (aF G G (aC G G ?_) (aF G G (aC G G ?_) (aF G G (aC G G ?_) (aF G G (aC G G ?_) (cV G G (cY G ?_) (cV G G (cY G ?_) (aF G G (aC G G ?_) cE)))))))) ?_
  ·exact fun _ uy=>aB (lo a8 (((((((((dz.ext (bo.t (bh.t (ah.t (bf.t (cg.t bm)))))).vN bg).ext (ae.t ab)).vN Z).ext bj).vN bi).ext E).vN F).ext uy) (O sd Ad nd cd) G G G (aE G aD G))
  ·intro _ uu
   have ar:=ci.trans uu
   refine dk G G (aB ?_)
   have xl:ln ((Int.natAbs n:Int))≤16777216:=(by rw [fQ];exact Ln)
   refine cl (vs:= [J sd Ad nd cd]) ar (mN ar.size (hn.ext ar) (aL ld G)) G (by kernel_rfl) fun _ _ oe tq ei=>?_
   obtain⟨_,_,_,_,rfl,ob⟩:=oe
   exact aE G tq ⟨_,_,_,_,rfl,ob⟩
  ·exact fun _ rj=>aB (lo a8 (((((((fd.ext (ae.t ab)).vN Z).ext bj).vN bi).ext E).vN F).ext rj) (O cx ct cp cv) G G G (aE G aD G))
  ·intro _ jg
   have ar:=ci.trans jg
   refine aO G G fun _ _ qm _ qu=>?_
   obtain⟨vl,qq,pt,tr,rfl,eg⟩:=qm
   have eg:=eg.ext qu
   refine dk G G (aB ?_)
   have xb:ln ((Int.natAbs n:Int).tdiv (Int.gcd m n:Int))≤16777216:=a6 (fC _ _) fx
   refine cl (vs:= [J vl qq pt tr,J cx ct cp cv]) ar (nP ar.size eg.zi (eg.le (aL fx G)) (((((((((fo.ext bm).updT el bg).ext (ae.t ab)).updT dc Z).ext bj).updT fc bi).ext E).updT ag F).ext jg).zi (fo.le (aL ma G)) (nM hm0) (H7 (Int.gcd_dvd_right m n))) G (by kernel_rfl) fun _ _ qz oq ei=>?_
   obtain⟨_,_,rfl,⟨_,_,_,_,rfl,ue⟩,rfl⟩:=qz
   exact aE G oq ⟨_,_,rfl,⟨_,_,_,_,rfl,ue⟩,rfl⟩
  ·intro _ _
   refine aO G G fun _ _ om _ uh=>?_
   obtain⟨_,_,rfl,⟨_,_,_,_,rfl,gy⟩,rfl⟩:=om
   have gy:=gy.ext uh
   refine aB (mv 1 G ?_)
   exact aE G aD ⟨_,_,rfl,⟨_,_,_,_,rfl,gy⟩,rfl⟩
  ·intro _ _
   refine aO G G fun _ _ va _ mm=>?_
   obtain⟨_,_,rfl,⟨rq,qd,mn,sn,rfl,ik⟩,rfl⟩:=va
   have ik:=ik.ext mm
   refine aB ?_
   exact⟨J rq qd mn sn,rfl,rfl,fun _=>by kernel_rfl,⟨_,_,_,_,rfl,ik⟩⟩
  ·intro _ _
   refine aO G G fun _ _ rp _ nh=>?_
   obtain⟨_,_,rfl,⟨_,_,_,_,rfl,jl⟩,rfl⟩:=rp
   have jl:=jl.ext nh
   refine aB ?_
   exact⟨v4 0,rfl,rfl,fun _=>by kernel_rfl,rfl⟩
  ·intro _ td
   refine aB (dW G (z:= .agg #[F0,S0]) (vs:= [F0,S0]) (fun _=>by kernel_rfl) G fun _ _ nb=>?_)
   exact aE G nb.ext ⟨_,rfl,by rw [←nb.at_];exact td.size,nb.bk⟩
  ·intro _ Y
   have ar:=ci.trans Y
   refine dk G G (aO G G fun _ _ vg _ tj=>?_)
   obtain⟨_,_,_,_,rfl,jy⟩:=vg
   have jy:=jy.ext tj
   refine dk G G (aO G G fun _ _ pz _ mu=>?_)
   obtain⟨_,_,rfl,⟨_,_,_,_,rfl,ji⟩,rfl⟩:=pz
   have ji:=ji.ext mu
   refine aO G G fun _ _ nw _ ni=>?_
   obtain⟨_,_,rfl,⟨_,_,_,_,rfl,jb⟩,rfl⟩:=nw
   have jb:=jb.ext ni
   refine aO G G fun _ _ vo _ tg=>?_
   obtain⟨bd,ai,am,ak,rfl,an⟩:=vo
   have an:=an.ext tg
   refine dk G G (aO G G fun _ _ mz _ vi=>?_)
   obtain⟨kt,rfl,cm,L⟩:=mz
   have L:=L.ext vi
   have wz:gb<kt:=d4 gg.lt cm
   have cm:w.heap.size≤kt:=a6 ci.size cm
   refine aB (so a8 L (O bd ai am ak) ar cm G G G G fun _ cy q ei=>(mv 1 G (aR (cF (aK (sr (lo a8 ((gg.ext Y).vN q) (O ip ia ge ft) G G G (lo a8 cy (O bd ai am ak) G G G (eL G G (vs:= [J ip ia ge ft,J bd ai am ak]) (by kernel_rfl) (by decide) (F2 ei.size (((ew.updT ag F).ext Y).updT L q).zi (ew.le (aL ve G)) (an.updT L q).zi (an.le (aL bp G)) HC.1 HC.2) ?_)))))))))
   rintro _ _ ⟨f,_,kc,_,rfl,pw,h⟩
   have jo:ln (f)≤16777217:=(kc.ln_u ve bp)
   refine eM ?_
   have ub:=ei.trans h
   obtain⟨_,_,rfl,⟨eh,fi,dy,ej,rfl,je⟩,rfl⟩:=pw
   refine mv 1 G (pu (v:= J eh fi dy ej) G (pu (v:= v4 0) G (bF [F0,S0] ub (cy.ext h).lt (fun _=>by kernel_rfl) G fun _ _ bu lu _ o uc=>(so a8 bu (O eh fi dy ej) uc lu G G G G fun _ il p jk=>(mv 1 G (aA (sr (lo a8 ((((((jv.ext E).vN F).ext Y).vN q).ext (h.t o)).vN p) (O iw ix iu iq) G G G (lo a8 il (O eh fi dy ej) G G G ?_)))))))))
   have mi:ln (((y-x).tdiv (Int.gcd m n:Int))*f)≤33554434:=a6 (dR nu jo) (by decide)
   refine cl (vs:= [J iw ix iu iq,J eh fi dy ej]) jk (k9 jk.size (((((((mw.updT fc bi).ext E).updT ag F).ext Y).updT L q).ext (h.t o)).updT bu p).zi (mw.le (aL nu G)) ((je.ext o).updT bu p).zi (je.le (aL jo G))) G (by kernel_rfl) fun _ _ uk U nk=>?_
   obtain⟨gk,fv,gx,ib,rfl,iz⟩:=uk
   refine bF [F0,S0] nk (il.ext U).lt (fun _=>by kernel_rfl) G fun _ _ co dx _ V nj=>(so a8 co (O gk fv gx ib) nj dx G G G G fun _ fq W jd=>(aA (sr (lo a8 fq (O gk fv gx ib) G G G (lo a8 ((((cy.ext (h.t o)).vN p).ext (U.t V)).vN W) (O bd ai am ak) G G G ?_)))))
   have io:ln ((((y-x).tdiv (Int.gcd m n:Int))*f)%((Int.natAbs n:Int).tdiv (Int.gcd m n:Int)))≤16777216:=a6 (bO HC.1) bp
   refine cl (vs:= [J gk fv gx ib,J bd ai am ak]) jd (k8 jd.size ((iz.ext V).updT co W).zi (iz.le (aL mi G)) (((((an.updT L q).ext (h.t o)).updT bu p).ext (U.t V)).updT co W).zi (an.le (aL bp G)) HC.1) G (by kernel_rfl) fun _ _ ov ba ro=>?_
   obtain⟨_,_,rfl,⟨dg,dm,cz,dn,rfl,jt⟩,rfl⟩:=ov
   refine mv 1 G (pu (v:= J dg dm cz dn) G (pu (v:= v4 0) G ?_))
   have dt:=(fq.ext ba)
   refine so a8 dt (O dg dm cz dn) ro dx G G G G fun _ fy au ig=>(aA (aH ?_))
   have gt:ln ((Int.natAbs m:Int))≤16777216:=(by rw [fQ];exact Lm)
   have go:ln ((Int.natAbs m:Int)*((Int.natAbs n:Int).tdiv (Int.gcd m n:Int)))≤33554432:=a6 (dR gt bp) (by decide)
   refine cU bR 4 [] [Is (J sb Ab nb cb),ZR w.heap.size ((Int.natAbs m:Int)),Is (J bd ai am ak),ZR w.heap.size ((Int.natAbs m:Int)*((Int.natAbs n:Int).tdiv (Int.gcd m n:Int)))] [[],[0],[],[1,2]] [[],[0],[],[0,1,2],[0,1,2,3]] rfl
    (aF G G (aC G G ?_) (aF G G (aC G G ?_) (aF G G (aC G G ?_) (aF G G (aC G G ?_) cE)))) ?_
   ·exact fun _ tp=>aB (lo a8 (((((((((((((((((fm.ext (du.t (dd.t (bo.t (bh.t (ah.t (bf.t (cg.t bm)))))))).vN bg).ext (ae.t ab)).vN Z).ext bj).vN bi).ext E).vN F).ext Y).vN q).ext (h.t o)).vN p).ext (U.t V)).vN W).ext ba).vN au).ext tp) (O sb Ab nb cb) G G G (aE G aD G))
   ·intro _ uj
    have aj:=ig.trans uj
    refine dk G G (aB ?_)
    have xi:ln ((Int.natAbs m:Int))≤16777216:=(by rw [fQ];exact Lm)
    refine cl (vs:= [J sb Ab nb cb]) aj (mN aj.size (hm.ext aj) (aL lb G)) G (by kernel_rfl) fun _ _ sj uz dh=>?_
    obtain⟨_,_,_,_,rfl,ti⟩:=sj
    exact aE G uz ⟨_,_,_,_,rfl,ti⟩
   ·exact fun _ pq=>aB (lo a8 (((((((cy.ext (h.t o)).vN p).ext (U.t V)).vN W).ext ba).vN au).ext pq) (O bd ai am ak) G G G (aE G aD G))
   ·intro _ kk
    have aj:=ig.trans kk
    refine aO G G fun _ _ re _ mx=>?_
    obtain⟨si,rc,ng,tw,rfl,ey⟩:=re
    have ey:=ey.ext mx
    refine dk G G (aB ?_)
    have xp:ln ((Int.natAbs m:Int)*((Int.natAbs n:Int).tdiv (Int.gcd m n:Int)))≤33554432:=a6 (dR gt bp) (by decide)
    refine cl (vs:= [J si rc ng tw,J bd ai am ak]) aj (k9 aj.size ey.zi (ey.le (aL gt G)) ((((((((an.updT L q).ext (h.t o)).updT bu p).ext (U.t V)).updT co W).ext ba).updT dt au).ext kk).zi (an.le (aL bp G))) G (by kernel_rfl) fun _ _ nt rn dh=>?_
    obtain⟨_,_,_,_,rfl,oi⟩:=nt
    exact aE G rn ⟨_,_,_,_,rfl,oi⟩
   ·intro _ az
    have aj:=ig.trans az
    refine dk G G (aO G G fun _ _ me _ um=>?_)
    obtain⟨_,_,_,_,rfl,jr⟩:=me
    have jr:=jr.ext um
    refine dk G G (aO G G fun _ _ vk _ nl=>?_)
    obtain⟨H,M,I,D,rfl,de⟩:=vk
    have de:=de.ext nl
    refine aB ?_
    have ck:=(((((((((((((((((jp.ext (ah.t (bf.t (cg.t bm)))).vN bg).ext (ae.t ab)).vN Z).ext bj).vN bi).ext E).vN F).ext Y).vN q).ext (h.t o)).vN p).ext (U.t V)).vN W).ext ba).vN au).ext az)
    refine so a8 ck (O H M I D) aj ju G G G G fun _ cn ao dh=>(aR (cF (aK (aH ?_))))
    have ie:ln ((Int.natAbs m:Int))≤16777216:=(by rw [fQ];exact Lm)
    have ij:ln (((((y-x).tdiv (Int.gcd m n:Int))*f)%((Int.natAbs n:Int).tdiv (Int.gcd m n:Int)))*(Int.natAbs m:Int))≤33554432:=a6 (dR io ie) (by decide)
    refine cU bR 4 [] [Is (J dg dm cz dn),Is (J sb Ab nb cb),ZR w.heap.size ((Int.natAbs m:Int)),ZR w.heap.size (((((y-x).tdiv (Int.gcd m n:Int))*f)%((Int.natAbs n:Int).tdiv (Int.gcd m n:Int)))*(Int.natAbs m:Int))] [[],[],[1],[0,2]] [[],[],[1],[0,1,2],[0,1,2,3]] rfl
     (aF G G (aC G G ?_) (aF G G (aC G G ?_) (aF G G (aC G G ?_) (aF G G (aC G G ?_) cE)))) ?_
    ·exact fun _ qh=>aB (lo a8 (((fy.ext az).vN ao).ext qh) (O dg dm cz dn) G G G (aE G aD G))
    ·exact fun _ oc=>aB (lo a8 (((((((((((((((((((fm.ext (du.t (dd.t (bo.t (bh.t (ah.t (bf.t (cg.t bm)))))))).vN bg).ext (ae.t ab)).vN Z).ext bj).vN bi).ext E).vN F).ext Y).vN q).ext (h.t o)).vN p).ext (U.t V)).vN W).ext ba).vN au).ext az).vN ao).ext oc) (O sb Ab nb cb) G G G (aE G aD G))
    ·intro _ qi
     have av:=dh.trans qi
     refine dk G G (aB ?_)
     have xe:ln ((Int.natAbs m:Int))≤16777216:=(by rw [fQ];exact Lm)
     refine cl (vs:= [J sb Ab nb cb]) av (mN av.size (hm.ext av) (aL lb G)) G (by kernel_rfl) fun _ _ mg uf df=>?_
     obtain⟨_,_,_,_,rfl,mh⟩:=mg
     exact aE G uf ⟨_,_,_,_,rfl,mh⟩
    ·intro _ jz
     have av:=dh.trans jz
     refine dk G G (aO G G fun _ _ te _ qv=>?_)
     obtain⟨tz,qr,tv,su,rfl,fb⟩:=te
     have fb:=fb.ext qv
     refine aB ?_
     have xk:ln (((((y-x).tdiv (Int.gcd m n:Int))*f)%((Int.natAbs n:Int).tdiv (Int.gcd m n:Int)))*(Int.natAbs m:Int))≤33554432:=a6 (dR io ie) (by decide)
     refine cl (vs:= [J dg dm cz dn,J tz qr tv su]) av (k9 av.size ((((jt.updT dt au).ext az).updT ck ao).ext jz).zi (jt.le (aL io G)) fb.zi (fb.le (aL ie G))) G (by kernel_rfl) fun _ _ vf uw df=>?_
     obtain⟨_,_,_,_,rfl,qy⟩:=vf
     exact aE G uw ⟨_,_,_,_,rfl,qy⟩
    ·intro _ X
     have av:=dh.trans X
     refine dk G G (dk G G (aO G G fun _ _ on _ pb=>?_))
     obtain⟨_,_,_,_,rfl,jh⟩:=on
     have jh:=jh.ext pb
     refine aO G G fun _ _ vp _ tf=>?_
     obtain⟨fk,ez,ep,fe,rfl,ee⟩:=vp
     have ee:=ee.ext tf
     refine aB ?_
     have cu:=(((fy.ext az).vN ao).ext X)
     refine so a8 cu (O fk ez ep fe) av dx G G G G fun _ kz aa df=>(aR (cF (aK (aH ?_))))
     have qf:ln (x+(((((y-x).tdiv (Int.gcd m n:Int))*f)%((Int.natAbs n:Int).tdiv (Int.gcd m n:Int)))*(Int.natAbs m:Int)))≤33554433:=a6 (gO Lx ij) (by decide)
     have xf:ln ((x+(((((y-x).tdiv (Int.gcd m n:Int))*f)%((Int.natAbs n:Int).tdiv (Int.gcd m n:Int)))*(Int.natAbs m:Int)))%((Int.natAbs m:Int)*((Int.natAbs n:Int).tdiv (Int.gcd m n:Int))))≤33554432:=a6 (bO (yV hm0 HC.1)) go
     refine cU bR 8 [6,7] [Is (J sa Aa na ca),Is (J fk ez ep fe),ZR w.heap.size (x+(((((y-x).tdiv (Int.gcd m n:Int))*f)%((Int.natAbs n:Int).tdiv (Int.gcd m n:Int)))*(Int.natAbs m:Int))),Is (J H M I D),T2 (ZR w.heap.size ((x+(((((y-x).tdiv (Int.gcd m n:Int))*f)%((Int.natAbs n:Int).tdiv (Int.gcd m n:Int)))*(Int.natAbs m:Int)))%((Int.natAbs m:Int)*((Int.natAbs n:Int).tdiv (Int.gcd m n:Int))))) (Is (v4 0)),T2 (ZR w.heap.size ((x+(((((y-x).tdiv (Int.gcd m n:Int))*f)%((Int.natAbs n:Int).tdiv (Int.gcd m n:Int)))*(Int.natAbs m:Int)))%((Int.natAbs m:Int)*((Int.natAbs n:Int).tdiv (Int.gcd m n:Int))))) (Is (v4 0)),ZR w.heap.size ((x+(((((y-x).tdiv (Int.gcd m n:Int))*f)%((Int.natAbs n:Int).tdiv (Int.gcd m n:Int)))*(Int.natAbs m:Int)))%((Int.natAbs m:Int)*((Int.natAbs n:Int).tdiv (Int.gcd m n:Int)))),Is (v4 0)] [[],[],[0,1],[],[2,3],[4],[5],[5]] [[],[],[0,1],[],[0,1,2,3],[0,1,2,3,4],[0,1,2,3,4,5],[0,1,2,3,4,5],[0,1,2,3,4,5,6]] rfl
      (aF G G (aC G G ?_) (aF G G (aC G G ?_) (aF G G (aC G G ?_) (aF G G (aC G G ?_) (aF G G (aC G G ?_) (aF G G (aC G G ?_) (cV G G (cY G ?_) (cV G G (cY G ?_) cE)))))))) ?_
     ·exact fun _ pl=>aB (lo a8 (((((((((((((((((((((mb.ext (e8.t (du.t (dd.t (bo.t (bh.t (ah.t (bf.t (cg.t bm))))))))).vN bg).ext (ae.t ab)).vN Z).ext bj).vN bi).ext E).vN F).ext Y).vN q).ext (h.t o)).vN p).ext (U.t V)).vN W).ext ba).vN au).ext az).vN ao).ext X).vN aa).ext pl) (O sa Aa na ca) G G G (aE G aD G))
     ·exact fun _ sx=>aB (lo a8 (kz.ext sx) (O fk ez ep fe) G G G (aE G aD G))
     ·intro _ iy
      have aw:=df.trans iy
      refine dk G G (dk G G (aB ?_))
      have xh:ln (x+(((((y-x).tdiv (Int.gcd m n:Int))*f)%((Int.natAbs n:Int).tdiv (Int.gcd m n:Int)))*(Int.natAbs m:Int)))≤33554433:=a6 (gO Lx ij) (by decide)
      refine cl (vs:= [J sa Aa na ca,J fk ez ep fe]) aw (qF aw.size (hx.ext aw) (aL la G) ((ee.updT cu aa).ext iy).zi (ee.le (aL ij G))) G (by kernel_rfl) fun _ _ qj up gj=>?_
      obtain⟨_,_,_,_,rfl,vc⟩:=qj
      exact aE G up ⟨_,_,_,_,rfl,vc⟩
     ·exact fun _ po=>aB (lo a8 (((cn.ext X).vN aa).ext po) (O H M I D) G G G (aE G aD G))
     ·intro _ ja
      have aw:=df.trans ja
      refine aO G G fun _ _ od _ qo=>?_
      obtain⟨tx,qe,nx,pr,rfl,fj⟩:=od
      have fj:=fj.ext qo
      refine dk G G (aB ?_)
      have xm:ln ((x+(((((y-x).tdiv (Int.gcd m n:Int))*f)%((Int.natAbs n:Int).tdiv (Int.gcd m n:Int)))*(Int.natAbs m:Int)))%((Int.natAbs m:Int)*((Int.natAbs n:Int).tdiv (Int.gcd m n:Int))))≤33554432:=a6 (bO (yV hm0 HC.1)) go
      refine cl (vs:= [J tx qe nx pr,J H M I D]) aw (k8 aw.size fj.zi (fj.le (aL qf G)) ((((de.updT ck ao).ext X).updT cu aa).ext ja).zi (de.le (aL go G)) (yV hm0 HC.1)) G (by kernel_rfl) fun _ _ pp qk gj=>?_
      obtain⟨_,_,rfl,⟨_,_,_,_,rfl,qt⟩,rfl⟩:=pp
      exact aE G qk ⟨_,_,rfl,⟨_,_,_,_,rfl,qt⟩,rfl⟩
     ·intro _ _
      refine aO G G fun _ _ sq _ rk=>?_
      obtain⟨_,_,rfl,⟨_,_,_,_,rfl,fw⟩,rfl⟩:=sq
      have fw:=fw.ext rk
      refine aB (mv 1 G ?_)
      exact aE G aD ⟨_,_,rfl,⟨_,_,_,_,rfl,fw⟩,rfl⟩
     ·intro _ _
      refine aO G G fun _ _ vh _ vq=>?_
      obtain⟨_,_,rfl,⟨oh,tu,sm,ui,rfl,fp⟩,rfl⟩:=vh
      have fp:=fp.ext vq
      refine aB ?_
      exact⟨J oh tu sm ui,rfl,rfl,fun _=>by kernel_rfl,⟨_,_,_,_,rfl,fp⟩⟩
     ·intro _ _
      refine aO G G fun _ _ qp _ ta=>?_
      obtain⟨_,_,rfl,⟨_,_,_,_,rfl,ku⟩,rfl⟩:=qp
      have ku:=ku.ext ta
      refine aB ?_
      exact⟨v4 0,rfl,rfl,fun _=>by kernel_rfl,rfl⟩
     ·intro _ ch
      have aw:=df.trans ch
      refine dk G G (dk G G (aO G G fun _ _ mf _ vd=>?_))
      obtain⟨_,_,_,_,rfl,jq⟩:=mf
      have jq:=jq.ext vd
      refine dk G G (aO G G fun _ _ sk _ ul=>?_)
      obtain⟨_,_,rfl,⟨_,_,_,_,rfl,kx⟩,rfl⟩:=sk
      have kx:=kx.ext ul
      refine aO G G fun _ _ sw _ pm=>?_
      obtain⟨_,_,rfl,⟨_,_,_,_,rfl,jx⟩,rfl⟩:=sw
      have jx:=jx.ext pm
      refine aO G G fun _ _ pg _ pe=>?_
      obtain⟨bv,bz,bt,br,rfl,fz⟩:=pg
      have fz:=fz.ext pe
      refine dk G G (aB ?_)
      have dr:=(((((((((((((((((((((kq.ext (bh.t (ah.t (bf.t (cg.t bm))))).vN bg).ext (ae.t ab)).vN Z).ext bj).vN bi).ext E).vN F).ext Y).vN q).ext (h.t o)).vN p).ext (U.t V)).vN W).ext ba).vN au).ext az).vN ao).ext X).vN aa).ext ch)
      refine so a8 dr (O bv bz bt br) aw kw G G G G fun jj gi dl gj=>(aR (cF (aK (aH (bH [(8,no vm 0),(9,no py 0)] ⟨rfl,rfl,Fo⟩ ?_)))))
      obtain⟨jc,hv,bc⟩:∃v,v=jj.drew∧Ext jj v:=⟨_,rfl,aD.drew⟩
      have tk:=gj.trans bc
      have dv:=(gi.ext bc)
      obtain⟨ux,ky,lm,da,_⟩:=eV (P:=aM) (us:= (O bv bz bt br)) (off:=0) a8 G dv (bq G) G (O bv bz bt br) rfl
      have oa:=da.ext tk kw
      have dw:=((((((cn.ext X).vN aa).ext ch).vN dl).ext bc).vN da)
      obtain⟨vn,md,lh,fg,_⟩:=eV (P:=aM) (us:= (O H M I D)) (off:=0) a8 G dw (bq G) G (O H M I D) rfl
      have my:=fg.ext oa ju
      refine gI bR (w:=jc) [J bv bz bt br,J H M I D,undef,undef,I0] [jc,ux,vn] [2,3] [[],[],[0],[1],[]] [[],[],[0],[0,1,2],[0,1,2,3]] [(0,0),(1,0),(1,1),(2,0),(3,1),(4,2)] G hv ?_ ?_
      ·refine aX _ G G G G G (cB G (aW a8 (gi.ext bc) (O bv bz bt br) G (bq G) G)) (aX _ G G G G G (cB G (aW a8 (((((cn.ext X).vN aa).ext ch).vN dl).ext bc) (O H M I D) G (bq G) G)) (aX _ G G G G G (cB G (aW a8 ((((((cn.ext X).vN aa).ext ch).vN dl).ext bc).vN da) (O H M I D) G (bq G) G)) (f7 _ G G G G G (eR G G ky) (f7 _ G G G G G (eR G G md) (aX _ G G G G G (kL G) ?_)))))
       exact gH
      clear hv
      refine fU [(8,no vm 0),(9,no py 0),(10,v4 0)] ⟨rfl,rfl,rfl,Fo⟩ (aK (bD (bC [J bv bz bt br,J H M I D,I0] G ⟨⟨_,rfl,aW a8 (lm.vN fg) (O bv bz bt br) G (bq G) rfl⟩,⟨_,rfl,aW a8 lh (O H M I D) G (bq G) rfl⟩,rfl,Fo⟩ ?_)))
      exact⟨_,rfl,⟨_,_,_,rfl,⟨_,_,_,_,rfl,(((((fz.updT dr dl).ext bc).updT dv da).updT dw fg)).cast (S6 hm0 hn0 kc d1 d2)⟩,⟨_,_,_,_,rfl,(((((((((de.updT ck ao).ext X).updT cu aa).ext ch).updT dr dl).ext bc).updT dv da).updT dw fg)).cast (G7 hm0 hn0)⟩,rfl⟩,my⟩
theorem PL (hb:b≤w.heap.size){m:Nat}(hne:n≠m):aQ aM 43 #[AT A n cap,AT B m cap2] w (Gv w (T3 (ZR b 0) (ZR b 0) (Is (v4 2)))):=by
 refine bP Tryz.func43 G (n:=65) G (bq G) (args:= [AT A n cap,AT B m cap2]) (bH [(0,AT A n cap),(1,AT B m cap2)] ⟨rfl,rfl,Fo⟩ (sr (al [F0,S0] (Ext.refl w) (fun _=>by kernel_rfl) G fun _ _ q U _ H=>(bF [F0,S0] H q.lt (fun _=>by kernel_rfl) G fun _ W M F _ X L=>(mv 1 G (aA (aH (sr (mv 1 G (pu (v:= v4 n) G (mv 1 G (pu (v:= v4 m) G (aN G G G true (vA (a:=n) (b:=m) G G) ?_)))))))))))))
 refine aA (bB G (sr (pu (v:= .agg #[F0,S0]) G (pu (v:= .agg #[F0,S0]) G ?_))))
 have f:=(q.ext X)
 refine so a8 f [F0,S0] L U G G G G fun _ D p I=>?_
 have h:=(M.vN p)
 refine so a8 h [F0,S0] I F G G G G fun _ E o V=>(mv 1 G (aA (bD (cT (bC [.agg #[F0,S0],.agg #[F0,S0],v4 2] G ⟨⟨_,rfl,aW a8 (D.vN o) [F0,S0] G (bq G) rfl⟩,⟨_,rfl,aW a8 E [F0,S0] G (bq G) rfl⟩,rfl,Fo⟩ ?_)))))
 exact⟨_,rfl,⟨_,_,_,rfl,⟨_,_,_,_,rfl,((((Zr.zero (w:=W) (base:=w.heap.size)).updT f p).updT h o)).mono hb⟩,⟨_,_,_,_,rfl,((((Zr.zero (w:=W) (base:=w.heap.size)).updT f p).updT h o)).mono hb⟩,rfl⟩,V⟩
theorem PI (hb:b≤w.heap.size){ms:List Int}(hr:Zl w A n cap rs ks)(hm:Zl w B n cap2 ms js)(hn:n≤2097152)(hkb:∀i,ks.getD i 0≤16777216)(hjb:∀i,js.getD i 0≤16777216)(hsum:(ms.map ln).sum≤1048576)(hi0:i0<n∧ms.getD i0 0=0):aQ aM 43 #[AT A n cap,AT B n cap2] w (Gv w (T3 (ZR b 0) (ZR b 0) (Is (v4 4)))):=by
 refine bP Tryz.func43 G (n:=65) G (bq G) (args:= [AT A n cap,AT B n cap2]) (bH [(0,AT A n cap),(1,AT B n cap2)] ⟨rfl,rfl,Fo⟩ (sr (al [F0,S0] (Ext.refl w) (fun _=>by kernel_rfl) G fun g1 _ V aw _ f=>(bF [F0,S0] f V.lt (fun _=>by kernel_rfl) G fun g6 v7 aq ae _ e8 o=>(mv 1 G (aA (aH (sr (mv 1 G (pu (v:= v4 n) G (mv 1 G (pu (v:= v4 n) G (aN G G G false (iI (a:=n) (b:=n) G G) ?_)))))))))))))
 refine aA (aV G (b8 (aK (aH (sr (mv 1 G (aA (bG ?_))))))))
 refine cQ (T:=a7×Nat)
  (fun⟨wr,k⟩=> [(0,AT A n cap),(1,AT B n cap2),(4,no g1 0),(5,no g6 0),(6,v4 0),(7,v4 k)])
  (fun⟨wr,k⟩=>wr)
  (fun⟨wr,k⟩=>(Ext w wr)∧(k≤n)∧(∀i,i<k→ms.getD i 0≠0)∧(Bk wr g1 24 [F0,S0])∧(Bk wr g6 24 [F0,S0]))
  (fun⟨wr,k⟩=>n-k)
  (⟨v7,0⟩:a7×Nat) ⟨o,bJ _,(fun i hi=>by omega),(V.ext e8),aq⟩ G ⟨rfl,rfl,rfl,rfl,rfl,rfl,Fo⟩ ?_
 rintro⟨wr,k⟩ ⟨f,_,hz,b_4,b_5⟩
 refine cP [(0,AT A n cap),(1,AT B n cap2),(4,no g1 0),(5,no g6 0),(6,v4 0),(7,v4 k)] wr G ⟨rfl,rfl,rfl,rfl,rfl,rfl,Fo⟩ (aH (aH ?_))
 by_cases bg:k<n
 ·refine aJ (mv 2 G (pu (v:= v4 n) G (aN G G G true (cG (a:=k) (b:=n) G G) (aA (bB G (b8 (aK (aH (bG (aH ?_))))))))))
  by_cases L:ms.getD k 0=0
  ·refine aJ (mv 2 G ?_)
   obtain⟨an,ag,U,ai,H,F,ah⟩:=hm.at (i:=k) (by omega)
   refine bI G G G d9 a8.size k G an H (aP G G (F _ f _ _ a8) (cl (vs:= [.agg #[.bool ag,AT U (js.getD k 0) ai]]) f (eN (ah.ext f) (a6 (hjb k) (by decide))) G (by kernel_rfl) fun _ W az aa o=>?_))
   obtain rfl:=az
   refine aN G G G true (iY L) (aA (bB G (sr (pu (v:= .agg #[F0,S0]) G (pu (v:= .agg #[F0,S0]) G ?_)))))
   have p:=(b_4.ext aa)
   refine so a8 p [F0,S0] o aw G G G G fun _ Z D av=>?_
   have q:=((b_5.ext aa).vN D)
   refine so a8 q [F0,S0] av ae G G G G fun _ ab E ba=>(mv 1 G (aA (bD (iB (cT (nQ (iB (cT (bC [.agg #[F0,S0],.agg #[F0,S0],v4 4] G ⟨⟨_,rfl,aW a8 (Z.vN E) [F0,S0] G (bq G) rfl⟩,⟨_,rfl,aW a8 ab [F0,S0] G (bq G) rfl⟩,rfl,Fo⟩ ?_)))))))))
   exact⟨_,rfl,⟨_,_,_,rfl,⟨_,_,_,_,rfl,((((Zr.zero (w:=W) (base:=w.heap.size)).updT p D).updT q E)).mono hb⟩,⟨_,_,_,_,rfl,((((Zr.zero (w:=W) (base:=w.heap.size)).updT p D).updT q E)).mono hb⟩,rfl⟩,ba⟩
  ·refine aJ (mv 2 G ?_)
   obtain⟨am,aj,ak,ao,M,I,Y⟩:=hm.at (i:=k) (by omega)
   refine bI G G G d9 a8.size k G am M (aP G G (I _ f _ _ a8) (cl (vs:= [.agg #[.bool aj,AT ak (js.getD k 0) ao]]) f (eN (Y.ext f) (a6 (hjb k) (by decide))) G (by kernel_rfl) fun _ bd ar X o=>?_))
   obtain rfl:=ar
   refine aN G G G false (fE L) (aA (aV G (b8 (bM (aK (aJ (mv 1 G (aT G G G ((k+1:Nat):Int) (bK (a:=k) (b:=1) G G) (mv 1 G (aR (bX (⟨bd,k+1⟩:a7×Nat) ⟨o,(by omega),(fun i hi=>if h:i<k then hz i h else (show i=k by omega)▸L),(b_4.ext X),(b_5.ext X)⟩ (show n-(k+1)<n-k by omega) G ⟨rfl,rfl,rfl,rfl,rfl,rfl,Fo⟩)))))))))))
 ·exact absurd hi0.2 (hz i0 (by omega))
theorem PK (hb:b≤w.heap.size){ms:List Int}(hr:Zl w A n cap rs ks)(hm:Zl w B n cap2 ms js)(hn:n≤2097152)(hkb:∀i,ks.getD i 0≤16777216)(hjb:∀i,js.getD i 0≤16777216)(hsum:(ms.map ln).sum≤1048576)(h0:∀i,i<ms.length→ms.getD i 0≠0)(hno:¬ ∃s,∀i,i<n→ms.getD i 0∣rs.getD i 0-s):aQ aM 43 #[AT A n cap,AT B n cap2] w (Gv w (T3 (ZR b 0) (ZR b 0) (Is (v4 6)))):=by
 refine bP Tryz.func43 G (n:=65) G (bq G) (args:= [AT A n cap,AT B n cap2]) (bH [(0,AT A n cap),(1,AT B n cap2)] ⟨rfl,rfl,Fo⟩ (sr (al [F0,S0] (Ext.refl w) (fun _=>by kernel_rfl) G fun g1 _ my gf _ o=>(bF [F0,S0] o my.lt (fun _=>by kernel_rfl) G fun g6 v7 ny aw _ e8 f=>(mv 1 G (aA (aH (sr (mv 1 G (pu (v:= v4 n) G (mv 1 G (pu (v:= v4 n) G (aN G G G false (iI (a:=n) (b:=n) G G) ?_)))))))))))))
 refine aA (aV G (b8 (aK (aH (sr (mv 1 G (aA (bG ?_))))))))
 refine cQ (T:=a7×Nat)
  (fun⟨wr,k⟩=> [(0,AT A n cap),(1,AT B n cap2),(4,no g1 0),(5,no g6 0),(6,v4 0),(7,v4 k)])
  (fun⟨wr,k⟩=>wr)
  (fun⟨wr,k⟩=>(Ext w wr)∧(k≤n)∧(∀i,i<k→ms.getD i 0≠0)∧(Bk wr g1 24 [F0,S0])∧(Bk wr g6 24 [F0,S0]))
  (fun⟨wr,k⟩=>n-k)
  (⟨v7,0⟩:a7×Nat) ⟨f,bJ _,(fun i hi=>by omega),(my.ext e8),ny⟩ G ⟨rfl,rfl,rfl,rfl,rfl,rfl,Fo⟩ ?_
 rintro⟨wr,k⟩ ⟨o,_,hz,b_4,b_5⟩
 refine cP [(0,AT A n cap),(1,AT B n cap2),(4,no g1 0),(5,no g6 0),(6,v4 0),(7,v4 k)] wr G ⟨rfl,rfl,rfl,rfl,rfl,rfl,Fo⟩ (aH (aH ?_))
 by_cases ow:k<n
 ·refine aJ (mv 2 G (pu (v:= v4 n) G (aN G G G true (cG (a:=k) (b:=n) G G) (aA (bB G (b8 (aK (aH (bG (aH ?_))))))))))
  have mr:ms.getD k 0≠0:=h0 k (by rw [hm.len];omega)
  refine aJ (mv 2 G ?_)
  obtain⟨ll,iy,ia,jd,go,gj,kw⟩:=hm.at (i:=k) (by omega)
  refine bI G G G d9 a8.size k G ll go (aP G G (gj _ o _ _ a8) (cl (vs:= [.agg #[.bool iy,AT ia (js.getD k 0) jd]]) o (eN (kw.ext o) (a6 (hjb k) (by decide))) G (by kernel_rfl) fun _ oe nl ng f=>?_))
  obtain rfl:=nl
  refine aN G G G false (fE mr) (aA (aV G (b8 (bM (aK (aJ (mv 1 G (aT G G G ((k+1:Nat):Int) (bK (a:=k) (b:=1) G G) (mv 1 G (aR (bX (⟨oe,k+1⟩:a7×Nat) ⟨f,(by omega),(fun i hi=>if h:i<k then hz i h else (show i=k by omega)▸mr),(b_4.ext ng),(b_5.ext ng)⟩ (show n-(k+1)<n-k by omega) G ⟨rfl,rfl,rfl,rfl,rfl,rfl,Fo⟩)))))))))))
 ·refine aJ (mv 2 G (pu (v:= v4 n) G (aN G G G false (cL (a:=k) (b:=n) G G) (aA (aV G (cR (cK (cN (cO (aK (sr (pu (v:= .agg #[F0,S0]) G ?_))))))))))))
  have il:=b_4
  refine so a8 il [F0,S0] o gf G G G G fun nw ik oa f=>(aA (sr (cl (vs:= []) f (mM (w:=nw) f.size) G (by kernel_rfl) fun _ _ oc jo W=>?_)))
  obtain⟨mq,ig,jm,mw,rfl,np⟩:=oc
  have eg:=((b_5.vN oa).ext jo)
  refine so a8 eg (O mq ig jm mw) W aw G G G G fun nz lh ku bu=>(aA (aH (sr (mv 1 G (aA (bG ?_))))))
  refine cQ (T:=a7×Nat×Int×ZC×ZC)
   (fun⟨wq,j,s,kr,km⟩=> [(0,AT A n cap),(1,AT B n cap2),(4,no g1 0),(5,no g6 0),(6,v4 0),(8,v4 j)])
   (fun⟨wq,j,s,kr,km⟩=>wq)
   (fun⟨wq,j,s,kr,km⟩=>(Ext w wq)∧(j≤n)∧(∀i,i<j→ms.getD i 0∣rs.getD i 0-s)∧(Bk wq g1 24 (O kr.s kr.A kr.n kr.c))∧(Bk wq g6 24 (O km.s km.A km.n km.c))∧(Zr wq w.heap.size kr.s kr.A kr.n kr.c (s%bV (ms.take j)))∧(Zr wq w.heap.size km.s km.A km.n km.c (bV (ms.take j))))
   (fun⟨wq,j,s,kr,km⟩=>n-j)
   (⟨nz,0,0,⟨false,none,0,0⟩,⟨mq,ig,jm,mw⟩⟩:a7×Nat×Int×ZC×ZC) ⟨bu,bJ _,(fun i hi=>by omega),((ik.ext jo).vN ku),lh,(Zr.zero.cast (by rw [List.take_zero];exact (Int.emod_one _).symm)),((np.updT eg ku)).cast (by rfl)⟩ G ⟨rfl,rfl,rfl,rfl,rfl,rfl,Fo⟩ ?_
  rintro⟨wq,j,s,kr,km⟩ ⟨o,hj,hs,b_4,b_5,zr,zm⟩
  refine cP [(0,AT A n cap),(1,AT B n cap2),(4,no g1 0),(5,no g6 0),(6,v4 0),(8,v4 j)] wq G ⟨rfl,rfl,rfl,rfl,rfl,rfl,Fo⟩ (aH (aH ?_))
  by_cases on:j<n
  ·refine aJ (mv 2 G (pu (v:= v4 n) G (aN G G G true (cG (a:=j) (b:=n) G G) (aA (bB G (b8 (aK (aH (bG (aH ?_))))))))))
   have cu:bV (ms.take j)≠0:=kP h0 j
   by_cases hd:(Int.gcd (bV (ms.take j)) (ms.getD j 0):Int)∣rs.getD j 0-s%bV (ms.take j)
   ·obtain⟨s',d1,d2,od⟩:=G5 (by rw [hm.len];omega) hs h0 hd
    obtain⟨ee,dc,ei,dv,fw,fz,kj⟩:=hr.at (i:=j) (by omega)
    obtain⟨fb,eh,de,fg,gk,gx,kv⟩:=hm.at (i:=j) (by omega)
    have ob:ln ((Int.lcm (bV (ms.take j)) (ms.getD j 0):Int))≤1048577:=(by rw [hJ (by rw [hm.len];omega)];exact g0 hsum (j+1))
    have pd:ln (s'%(Int.lcm (bV (ms.take j)) (ms.getD j 0):Int))≤1048577:=a6 (bO (kX cu (h0 j (by rw [hm.len];omega)))) ob
    refine qH bR 17 [12,13,14] [15,16] [Is (J kr.s kr.A kr.n kr.c),Is (J km.s km.A km.n km.c),Is (AT A n cap),Is (v4 j),Is (.pointer (some ee)),Is (.agg #[.bool dc,AT ei (ks.getD j 0) dv]),Is (AT B n cap2),Is (v4 j),Is (.pointer (some fb)),Is (.agg #[.bool eh,AT de (js.getD j 0) fg]),T3 (ZR w.heap.size (s'%(Int.lcm (bV (ms.take j)) (ms.getD j 0):Int))) (ZR w.heap.size ((Int.lcm (bV (ms.take j)) (ms.getD j 0):Int))) (Is (v4 0)),T3 (ZR w.heap.size (s'%(Int.lcm (bV (ms.take j)) (ms.getD j 0):Int))) (ZR w.heap.size ((Int.lcm (bV (ms.take j)) (ms.getD j 0):Int))) (Is (v4 0)),ZR w.heap.size (s'%(Int.lcm (bV (ms.take j)) (ms.getD j 0):Int)),ZR w.heap.size ((Int.lcm (bV (ms.take j)) (ms.getD j 0):Int)),Is (v4 0),PR wq.heap.size 24 [F0,S0],PR wq.heap.size 24 [F0,S0]] [[],[],[],[],[2,3],[4],[],[],[6,7],[8],[0,1,5,9],[10],[11],[11],[11],[],[]] [[],[],[],[],[2,3],[2,3,4],[],[],[6,7],[6,7,8],[0,1,2,3,4,5,6,7,8,9],[0,1,2,3,4,5,6,7,8,9,10],[0,1,2,3,4,5,6,7,8,9,10,11],[0,1,2,3,4,5,6,7,8,9,10,11],[0,1,2,3,4,5,6,7,8,9,10,11],[],[],[0,1,2,3,4,5,6,7,8,9,10,11,12,15,16],[0,1,2,3,4,5,6,7,8,9,10,11,12,13,15,16,17],[0,1,2,3,4,5,6,7,8,9,10,11,12,13,14,15,16,17,18]] G G ⟨fun _ _ h=>PR.old h,fun _ _ h=>PR.old h,Fo⟩
     (aF G G (aC G G ?_) (aF G G (aC G G ?_) (aF G G (aC G G ?_) (aF G G (aC G G ?_) (aF G G (aC G G ?_) (aF G G (aC G G ?_) (aF G G (aC G G ?_) (aF G G (aC G G ?_) (aF G G (aC G G ?_) (aF G G (aC G G ?_) (aF G G (aC G G ?_) (aF G G (aC G G ?_) (cV G G (cY G ?_) (cV G G (cY G ?_) (cV G G (cY G ?_) (aF G G (mK G ?_) (aF G G (mK G ?_) cE))))))))))))))))) ?_
    ·exact fun _ nu=>aB (lo a8 (b_4.ext nu) (O kr.s kr.A kr.n kr.c) G G G (aE G aD G))
    ·exact fun _ nk=>aB (lo a8 (b_5.ext nk) (O km.s km.A km.n km.c) G G G (aE G aD G))
    ·exact fun _ _=>aB (mv 1 G (aE G aD G))
    ·exact fun _ _=>aB (mv 1 G (aE G aD G))
    ·exact fun _ _=>dk G G (dk G G (aB (bI G G G d9 a8.size j G ee fw (aE G aD G))))
    ·intro _ nx
     have f:=o.trans nx
     refine dk G G (aB (aP G G (fz _ f _ _ a8) ?_))
     exact aE G aD rfl
    ·exact fun _ _=>aB (mv 1 G (aE G aD G))
    ·exact fun _ _=>aB (mv 1 G (aE G aD G))
    ·exact fun _ _=>dk G G (dk G G (aB (bI G G G d9 a8.size j G fb gk (aE G aD G))))
    ·intro _ nt
     have f:=o.trans nt
     refine dk G G (aB (aP G G (gx _ f _ _ a8) ?_))
     exact aE G aD rfl
    ·intro _ ft
     have f:=o.trans ft
     refine dk G G (dk G G (dk G G (dk G G (aB ?_))))
     have ji:ln ((Int.lcm (bV (ms.take j)) (ms.getD j 0):Int))≤1048577:=(by rw [hJ (by rw [hm.len];omega)];exact g0 hsum (j+1))
     have om:ln (s'%(Int.lcm (bV (ms.take j)) (ms.getD j 0):Int))≤1048577:=a6 (bO (kX cu (h0 j (by rw [hm.len];omega)))) ji
     refine cl (vs:= [J kr.s kr.A kr.n kr.c,J km.s km.A km.n km.c,.agg #[.bool dc,AT ei (ks.getD j 0) dv],.agg #[.bool eh,AT de (js.getD j 0) fg]]) f (yF f.size (zr.ext ft).zi (zr.le (a6 (a6 (bO (kP h0 j)) (g0 hsum j)) (by decide))) (zm.ext ft).zi (zm.le (a6 (g0 hsum j) (by decide))) (kj.ext f) (a6 (hkb j) (by decide)) (kv.ext f) (a6 (hjb j) (by decide)) cu (h0 j (by rw [hm.len];omega)) d1 d2) G (by kernel_rfl) fun _ _ ml ja W=>?_
     obtain⟨_,_,_,rfl,⟨_,_,_,_,rfl,mg⟩,⟨_,_,_,_,rfl,iz⟩,rfl⟩:=ml
     exact aE G ja ⟨_,_,_,rfl,⟨_,_,_,_,rfl,mg⟩,⟨_,_,_,_,rfl,iz⟩,rfl⟩
    ·intro _ _
     refine aO G G fun _ _ mi _ fk=>?_
     obtain⟨_,_,_,rfl,⟨_,_,_,_,rfl,au⟩,⟨_,_,_,_,rfl,cm⟩,rfl⟩:=mi
     have au:=au.ext fk
     have cm:=cm.ext fk
     refine aB (mv 1 G ?_)
     exact aE G aD ⟨_,_,_,rfl,⟨_,_,_,_,rfl,au⟩,⟨_,_,_,_,rfl,cm⟩,rfl⟩
    ·intro _ _
     refine aO G G fun _ _ lg _ ey=>?_
     obtain⟨_,_,_,rfl,⟨mn,lj,jq,me,rfl,ck⟩,⟨_,_,_,_,rfl,fi⟩,rfl⟩:=lg
     have ck:=ck.ext ey
     have fi:=fi.ext ey
     refine aB ?_
     exact⟨J mn lj jq me,rfl,rfl,fun _=>by kernel_rfl,⟨_,_,_,_,rfl,ck⟩⟩
    ·intro _ _
     refine aO G G fun _ _ jj _ du=>?_
     obtain⟨_,_,_,rfl,⟨_,_,_,_,rfl,dw⟩,⟨jp,ni,jl,jx,rfl,bz⟩,rfl⟩:=jj
     have dw:=dw.ext du
     have bz:=bz.ext du
     refine aB ?_
     exact⟨J jp ni jl jx,rfl,rfl,fun _=>by kernel_rfl,⟨_,_,_,_,rfl,bz⟩⟩
    ·intro _ _
     refine aO G G fun _ _ ky _ fd=>?_
     obtain⟨_,_,_,rfl,⟨_,_,_,_,rfl,dz⟩,⟨_,_,_,_,rfl,fo⟩,rfl⟩:=ky
     have dz:=dz.ext fd
     have fo:=fo.ext fd
     refine aB ?_
     exact⟨v4 0,rfl,rfl,fun _=>by kernel_rfl,rfl⟩
    ·intro _ mz
     refine aB (dW G (z:= .agg #[F0,S0]) (vs:= [F0,S0]) (fun _=>by kernel_rfl) G fun _ _ nb=>?_)
     exact aE G nb.ext ⟨⟨_,rfl,by rw [←nb.at_];exact mz.size,nb.bk⟩,_,rfl,Nat.le_of_eq nb.at_⟩
    ·intro _ jf
     refine aB (dW G (z:= .agg #[F0,S0]) (vs:= [F0,S0]) (fun _=>by kernel_rfl) G fun _ _ nb=>?_)
     exact aE G nb.ext ⟨⟨_,rfl,by rw [←nb.at_];exact jf.size,nb.bk⟩,_,rfl,Nat.le_of_eq nb.at_⟩
    ·intro _ ch
     have f:=o.trans ch
     refine dk G G (dk G G (dk G G (dk G G (dk G G (dk G G (dk G G (dk G G (dk G G (dk G G (aO G G fun _ _ nh _ ew=>?_))))))))))
     obtain⟨_,_,_,rfl,⟨_,_,_,_,rfl,da⟩,⟨_,_,_,_,rfl,dh⟩,rfl⟩:=nh
     have da:=da.ext ew
     have dh:=dh.ext ew
     refine aO G G fun _ _ jw _ fj=>?_
     obtain⟨_,_,_,rfl,⟨_,_,_,_,rfl,fe⟩,⟨_,_,_,_,rfl,dt⟩,rfl⟩:=jw
     have fe:=fe.ext fj
     have dt:=dt.ext fj
     refine aO G G fun _ _ iq _ kc=>?_
     obtain⟨ae,am,ao,an,rfl,bj⟩:=iq
     have bj:=bj.ext kc
     refine aO G G fun _ _ ko _ mx=>?_
     obtain⟨ah,ag,ak,ai,rfl,ba⟩:=ko
     have ba:=ba.ext mx
     refine dk G G (aO G G fun _ _ ij _ lp=>?_)
     obtain⟨cn,rfl,H,q⟩:=ij
     have q:=q.ext lp
     have oo:g6<cn:=d4 b_5.lt H
     have H:w.heap.size≤cn:=a6 o.size H
     refine aO G G fun _ _ kx _ lu=>?_
     obtain⟨ar,rfl,E,X⟩:=kx
     have X:=X.ext lu
     have oi:g6<ar:=d4 b_5.lt E
     have E:w.heap.size≤ar:=a6 o.size E
     refine aB ?_
     intro p
     have ov:ar≠cn:=fun e=>p 16 (by decide) 15 (by decide) (by decide) _ _ G G _ _ G G _ (bS G) (by rw [e];exact bS G)
     clear p
     refine so a8 q (O ae am ao an) f H G G G G fun _ fp L W=>?_
     have M:=(X.vN L)
     refine so a8 M (O ah ag ak ai) W E G G G G fun _ ga I bu=>(mv 1 G (aR (cF (aK (aH (sr (mv 1 G (aN G G G false (by decide) (aA (aV G (b8 (aK (aH ?_)))))))))))))
     refine aJ (lo a8 (fp.vN I) (O ae am ao an) G G G ?_)
     have aa:=(((b_4.ext ch).vN L).vN I)
     refine so a8 aa (O ae am ao an) bu gf G G G G fun _ gt aj gg=>(aA (aJ (lo a8 (ga.vN aj) (O ah ag ak ai) G G G ?_)))
     have V:=((((b_5.ext ch).vN L).vN I).vN aj)
     refine so a8 V (O ah ag ak ai) gg aw G G G G fun ju fq bd fx=>(aR (bM (aK (aJ (mv 1 G (aT G G G ((j+1:Nat):Int) (bK (a:=j) (b:=1) G G) (mv 1 G (aR (bX (⟨ju,j+1,s',⟨ae,am,ao,an⟩,⟨ah,ag,ak,ai⟩⟩:a7×Nat×Int×ZC×ZC) ⟨fx,(by omega),od,(gt.vN bd),fq,(((((bj.updT q L).updT M I).updT aa aj).updT V bd)).cast (by rw [hJ (by rw [hm.len];omega)]),(((((ba.updT q L).updT M I).updT aa aj).updT V bd)).cast (hJ (by rw [hm.len];omega))⟩ (show n-(j+1)<n-j by omega) G ⟨rfl,rfl,rfl,rfl,rfl,rfl,Fo⟩)))))))))
   ·obtain⟨bc,cg,br,bh,cv,cy,gb⟩:=hr.at (i:=j) (by omega)
    obtain⟨av,bf,ci,bm,cz,cx,gi⟩:=hm.at (i:=j) (by omega)
    refine qH bR 17 [12,13,14] [15,16] [Is (J kr.s kr.A kr.n kr.c),Is (J km.s km.A km.n km.c),Is (AT A n cap),Is (v4 j),Is (.pointer (some bc)),Is (.agg #[.bool cg,AT br (ks.getD j 0) bh]),Is (AT B n cap2),Is (v4 j),Is (.pointer (some av)),Is (.agg #[.bool bf,AT ci (js.getD j 0) bm]),T3 (ZR w.heap.size (0)) (ZR w.heap.size (0)) (Is (v4 6)),T3 (ZR w.heap.size (0)) (ZR w.heap.size (0)) (Is (v4 6)),ZR w.heap.size (0),ZR w.heap.size (0),Is (v4 6),PR wq.heap.size 24 [F0,S0],PR wq.heap.size 24 [F0,S0]] [[],[],[],[],[2,3],[4],[],[],[6,7],[8],[0,1,5,9],[10],[11],[11],[11],[],[]] [[],[],[],[],[2,3],[2,3,4],[],[],[6,7],[6,7,8],[0,1,2,3,4,5,6,7,8,9],[0,1,2,3,4,5,6,7,8,9,10],[0,1,2,3,4,5,6,7,8,9,10,11],[0,1,2,3,4,5,6,7,8,9,10,11],[0,1,2,3,4,5,6,7,8,9,10,11],[],[],[0,1,2,3,4,5,6,7,8,9,10,11,12,15,16],[0,1,2,3,4,5,6,7,8,9,10,11,12,13,15,16,17],[0,1,2,3,4,5,6,7,8,9,10,11,12,13,14,15,16,17,18]] G G ⟨fun _ _ h=>PR.old h,fun _ _ h=>PR.old h,Fo⟩
     (aF G G (aC G G ?_) (aF G G (aC G G ?_) (aF G G (aC G G ?_) (aF G G (aC G G ?_) (aF G G (aC G G ?_) (aF G G (aC G G ?_) (aF G G (aC G G ?_) (aF G G (aC G G ?_) (aF G G (aC G G ?_) (aF G G (aC G G ?_) (aF G G (aC G G ?_) (aF G G (aC G G ?_) (cV G G (cY G ?_) (cV G G (cY G ?_) (cV G G (cY G ?_) (aF G G (mK G ?_) (aF G G (mK G ?_) cE))))))))))))))))) ?_
    ·exact fun _ kn=>aB (lo a8 (b_4.ext kn) (O kr.s kr.A kr.n kr.c) G G G (aE G aD G))
    ·exact fun _ mf=>aB (lo a8 (b_5.ext mf) (O km.s km.A km.n km.c) G G G (aE G aD G))
    ·exact fun _ _=>aB (mv 1 G (aE G aD G))
    ·exact fun _ _=>aB (mv 1 G (aE G aD G))
    ·exact fun _ _=>dk G G (dk G G (aB (bI G G G d9 a8.size j G bc cv (aE G aD G))))
    ·intro _ ip
     have f:=o.trans ip
     refine dk G G (aB (aP G G (cy _ f _ _ a8) ?_))
     exact aE G aD rfl
    ·exact fun _ _=>aB (mv 1 G (aE G aD G))
    ·exact fun _ _=>aB (mv 1 G (aE G aD G))
    ·exact fun _ _=>dk G G (dk G G (aB (bI G G G d9 a8.size j G av cz (aE G aD G))))
    ·intro _ je
     have f:=o.trans je
     refine dk G G (aB (aP G G (cx _ f _ _ a8) ?_))
     exact aE G aD rfl
    ·intro _ aq
     have f:=o.trans aq
     refine dk G G (dk G G (dk G G (dk G G (aB (cl (vs:= [J kr.s kr.A kr.n kr.c,J km.s km.A km.n km.c,.agg #[.bool cg,AT br (ks.getD j 0) bh],.agg #[.bool bf,AT ci (js.getD j 0) bm]]) f (F4 f.size (zr.ext aq).zi (zr.le (a6 (a6 (bO (kP h0 j)) (g0 hsum j)) (by decide))) (zm.ext aq).zi (zm.le (a6 (g0 hsum j) (by decide))) (gb.ext f) (a6 (hkb j) (by decide)) (gi.ext f) (a6 (hjb j) (by decide)) cu (h0 j (by rw [hm.len];omega)) hd) G (by kernel_rfl) fun _ _ lv mp W=>?_)))))
     obtain⟨_,_,_,rfl,⟨_,_,_,_,rfl,iu⟩,⟨_,_,_,_,rfl,jy⟩,rfl⟩:=lv
     exact aE G mp ⟨_,_,_,rfl,⟨_,_,_,_,rfl,iu⟩,⟨_,_,_,_,rfl,jy⟩,rfl⟩
    ·intro _ _
     refine aO G G fun _ _ mj _ fm=>?_
     obtain⟨_,_,_,rfl,⟨_,_,_,_,rfl,co⟩,⟨_,_,_,_,rfl,az⟩,rfl⟩:=mj
     have co:=co.ext fm
     have az:=az.ext fm
     refine aB (mv 1 G ?_)
     exact aE G aD ⟨_,_,_,rfl,⟨_,_,_,_,rfl,co⟩,⟨_,_,_,_,rfl,az⟩,rfl⟩
    ·intro _ _
     refine aO G G fun _ _ jv _ dx=>?_
     obtain⟨_,_,_,rfl,⟨mu,ki,mb,kq,rfl,bi⟩,⟨_,_,_,_,rfl,dd⟩,rfl⟩:=jv
     have bi:=bi.ext dx
     have dd:=dd.ext dx
     refine aB ?_
     exact⟨J mu ki mb kq,rfl,rfl,fun _=>by kernel_rfl,⟨_,_,_,_,rfl,bi⟩⟩
    ·intro _ _
     refine aO G G fun _ _ jb _ df=>?_
     obtain⟨_,_,_,rfl,⟨_,_,_,_,rfl,dy⟩,⟨mt,mm,jk,kz,rfl,bo⟩,rfl⟩:=jb
     have dy:=dy.ext df
     have bo:=bo.ext df
     refine aB ?_
     exact⟨J mt mm jk kz,rfl,rfl,fun _=>by kernel_rfl,⟨_,_,_,_,rfl,bo⟩⟩
    ·intro _ _
     refine aO G G fun _ _ jc _ dn=>?_
     obtain⟨_,_,_,rfl,⟨_,_,_,_,rfl,dr⟩,⟨_,_,_,_,rfl,ep⟩,rfl⟩:=jc
     have dr:=dr.ext dn
     have ep:=ep.ext dn
     refine aB ?_
     exact⟨v4 6,rfl,rfl,fun _=>by kernel_rfl,rfl⟩
    ·intro _ ma
     refine aB (dW G (z:= .agg #[F0,S0]) (vs:= [F0,S0]) (fun _=>by kernel_rfl) G fun _ _ nb=>?_)
     exact aE G nb.ext ⟨⟨_,rfl,by rw [←nb.at_];exact ma.size,nb.bk⟩,_,rfl,Nat.le_of_eq nb.at_⟩
    ·intro _ ie
     refine aB (dW G (z:= .agg #[F0,S0]) (vs:= [F0,S0]) (fun _=>by kernel_rfl) G fun _ _ nb=>?_)
     exact aE G nb.ext ⟨⟨_,rfl,by rw [←nb.at_];exact ie.size,nb.bk⟩,_,rfl,Nat.le_of_eq nb.at_⟩
    ·intro _ cp
     have f:=o.trans cp
     refine dk G G (dk G G (dk G G (dk G G (dk G G (dk G G (dk G G (dk G G (dk G G (dk G G (aO G G fun _ _ ib _ ez=>?_))))))))))
     obtain⟨_,_,_,rfl,⟨_,_,_,_,rfl,el⟩,⟨_,_,_,_,rfl,ef⟩,rfl⟩:=ib
     have el:=el.ext ez
     have ef:=ef.ext ez
     refine aO G G fun _ _ mh _ dl=>?_
     obtain⟨_,_,_,rfl,⟨_,_,_,_,rfl,dm⟩,⟨_,_,_,_,rfl,fh⟩,rfl⟩:=mh
     have dm:=dm.ext dl
     have fh:=fh.ext dl
     refine aO G G fun _ _ io _ mo=>?_
     obtain⟨lm,jr,kk,jg,rfl,dg⟩:=io
     have dg:=dg.ext mo
     refine aO G G fun _ _ md _ ir=>?_
     obtain⟨nj,ix,kt,jh,rfl,fc⟩:=md
     have fc:=fc.ext ir
     refine dk G G (aO G G fun _ _ kf _ jz=>?_)
     obtain⟨cj,rfl,F,ab⟩:=kf
     have ab:=ab.ext jz
     have oh:g6<cj:=d4 b_5.lt F
     have F:w.heap.size≤cj:=a6 o.size F
     refine aO G G fun _ _ jt _ iw=>?_
     obtain⟨bv,rfl,D,Z⟩:=jt
     have Z:=Z.ext iw
     have ou:g6<bv:=d4 b_5.lt D
     have D:w.heap.size≤bv:=a6 o.size D
     refine aB ?_
     intro p
     have ot:bv≠cj:=fun e=>p 16 (by decide) 15 (by decide) (by decide) _ _ G G _ _ G G _ (bS G) (by rw [e];exact bS G)
     clear p
     refine so a8 ab (O lm jr kk jg) f F G G G G fun _ _ bp W=>?_
     have fv:=(Z.vN bp)
     refine so a8 fv (O nj ix kt jh) W D G G G G fun ej _ fa bu=>(mv 1 G (aR (cF (aK (aH (sr (mv 1 G (aN G G G true (by decide) (aA (bB G (sr (pu (v:= .agg #[F0,S0]) G (pu (v:= .agg #[F0,S0]) G ?_)))))))))))))
     refine mv 1 G ?_
     have Y:=(((b_4.ext cp).vN bp).vN fa)
     refine so a8 Y [F0,S0] bu gf G G G G fun _ fy bg gg=>?_
     have U:=((((b_5.ext cp).vN bp).vN fa).vN bg)
     refine so a8 U [F0,S0] gg aw G G G G fun _ ge bt fx=>(mv 1 G (aA (bD (cT (iB (cT (nQ (iB (cT (bC [.agg #[F0,S0],.agg #[F0,S0],v4 6] G ⟨⟨_,rfl,aW a8 (fy.vN bt) [F0,S0] G (bq G) rfl⟩,⟨_,rfl,aW a8 ge [F0,S0] G (bq G) rfl⟩,rfl,Fo⟩ ?_))))))))))
     exact⟨_,rfl,⟨_,_,_,rfl,⟨_,_,_,_,rfl,((((Zr.zero (w:=ej) (base:=w.heap.size)).updT Y bg).updT U bt)).mono hb⟩,⟨_,_,_,_,rfl,((((Zr.zero (w:=ej) (base:=w.heap.size)).updT Y bg).updT U bt)).mono hb⟩,rfl⟩,fx⟩
  ·have pb:j=n:=by omega
   exact absurd ⟨s,fun i hi=>hs i (by omega)⟩ hno
theorem PJ (hb:b≤w.heap.size){ms:List Int}(hr:Zl w A n cap rs ks)(hm:Zl w B n cap2 ms js)(hn:n≤2097152)(hkb:∀i,ks.getD i 0≤16777216)(hjb:∀i,js.getD i 0≤16777216)(hsum:(ms.map ln).sum≤1048576)(h0:∀i,i<ms.length→ms.getD i 0≠0)(hs:∀i,i<ms.length→ms.getD i 0∣rs.getD i 0-s):aQ aM 43 #[AT A n cap,AT B n cap2] w (Gv w (T3 (ZR b (s%bV ms)) (ZR b (bV ms)) (Is (v4 0)))):=by
 refine bP Tryz.func43 G (n:=65) G (bq G) (args:= [AT A n cap,AT B n cap2]) (bH [(0,AT A n cap),(1,AT B n cap2)] ⟨rfl,rfl,Fo⟩ (sr (al [F0,S0] (Ext.refl w) (fun _=>by kernel_rfl) G fun g1 _ ie dr _ o=>(bF [F0,S0] o ie.lt (fun _=>by kernel_rfl) G fun g6 v7 ja aq _ e8 f=>(mv 1 G (aA (aH (sr (mv 1 G (pu (v:= v4 n) G (mv 1 G (pu (v:= v4 n) G (aN G G G false (iI (a:=n) (b:=n) G G) ?_)))))))))))))
 refine aA (aV G (b8 (aK (aH (sr (mv 1 G (aA (bG ?_))))))))
 refine cQ (T:=a7×Nat)
  (fun⟨wr,k⟩=> [(0,AT A n cap),(1,AT B n cap2),(4,no g1 0),(5,no g6 0),(6,v4 0),(7,v4 k)])
  (fun⟨wr,k⟩=>wr)
  (fun⟨wr,k⟩=>(Ext w wr)∧(k≤n)∧(∀i,i<k→ms.getD i 0≠0)∧(Bk wr g1 24 [F0,S0])∧(Bk wr g6 24 [F0,S0]))
  (fun⟨wr,k⟩=>n-k)
  (⟨v7,0⟩:a7×Nat) ⟨f,bJ _,(fun i hi=>by omega),(ie.ext e8),ja⟩ G ⟨rfl,rfl,rfl,rfl,rfl,rfl,Fo⟩ ?_
 rintro⟨wr,k⟩ ⟨o,_,hz,b_4,b_5⟩
 refine cP [(0,AT A n cap),(1,AT B n cap2),(4,no g1 0),(5,no g6 0),(6,v4 0),(7,v4 k)] wr G ⟨rfl,rfl,rfl,rfl,rfl,rfl,Fo⟩ (aH (aH ?_))
 by_cases jp:k<n
 ·refine aJ (mv 2 G (pu (v:= v4 n) G (aN G G G true (cG (a:=k) (b:=n) G G) (aA (bB G (b8 (aK (aH (bG (aH ?_))))))))))
  have gy:ms.getD k 0≠0:=h0 k (by rw [hm.len];omega)
  refine aJ (mv 2 G ?_)
  obtain⟨gb,el,ee,ey,dw,dt,fv⟩:=hm.at (i:=k) (by omega)
  refine bI G G G d9 a8.size k G gb dw (aP G G (dt _ o _ _ a8) (cl (vs:= [.agg #[.bool el,AT ee (js.getD k 0) ey]]) o (eN (fv.ext o) (a6 (hjb k) (by decide))) G (by kernel_rfl) fun _ jh iq ij f=>?_))
  obtain rfl:=iq
  refine aN G G G false (fE gy) (aA (aV G (b8 (bM (aK (aJ (mv 1 G (aT G G G ((k+1:Nat):Int) (bK (a:=k) (b:=1) G G) (mv 1 G (aR (bX (⟨jh,k+1⟩:a7×Nat) ⟨f,(by omega),(fun i hi=>if h:i<k then hz i h else (show i=k by omega)▸gy),(b_4.ext ij),(b_5.ext ij)⟩ (show n-(k+1)<n-k by omega) G ⟨rfl,rfl,rfl,rfl,rfl,rfl,Fo⟩)))))))))))
 ·refine aJ (mv 2 G (pu (v:= v4 n) G (aN G G G false (cL (a:=k) (b:=n) G G) (aA (aV G (cR (cK (cN (cO (aK (sr (pu (v:= .agg #[F0,S0]) G ?_))))))))))))
  have ei:=b_4
  refine so a8 ei [F0,S0] o dr G G G G fun ix eh jd f=>(aA (sr (cl (vs:= []) f (mM (w:=ix) f.size) G (by kernel_rfl) fun _ _ jg fe am=>?_)))
  obtain⟨gx,ef,fd,ia,rfl,ir⟩:=jg
  have ci:=((b_5.vN jd).ext fe)
  refine so a8 ci (O gx ef fd ia) am aq G G G G fun jc fz fq ba=>(aA (aH (sr (mv 1 G (aA (bG ?_))))))
  refine cQ (T:=a7×Nat×ZC×ZC)
   (fun⟨wq,j,kr,km⟩=> [(0,AT A n cap),(1,AT B n cap2),(4,no g1 0),(5,no g6 0),(6,v4 0),(8,v4 j)])
   (fun⟨wq,j,kr,km⟩=>wq)
   (fun⟨wq,j,kr,km⟩=>(Ext w wq)∧(j≤n)∧(Bk wq g1 24 (O kr.s kr.A kr.n kr.c))∧(Bk wq g6 24 (O km.s km.A km.n km.c))∧(Zr wq w.heap.size kr.s kr.A kr.n kr.c (s%bV (ms.take j)))∧(Zr wq w.heap.size km.s km.A km.n km.c (bV (ms.take j))))
   (fun⟨wq,j,kr,km⟩=>n-j)
   (⟨jc,0,⟨false,none,0,0⟩,⟨gx,ef,fd,ia⟩⟩:a7×Nat×ZC×ZC) ⟨ba,bJ _,((eh.ext fe).vN fq),fz,(Zr.zero.cast (by rw [List.take_zero];exact (Int.emod_one _).symm)),((ir.updT ci fq)).cast (by rfl)⟩ G ⟨rfl,rfl,rfl,rfl,rfl,rfl,Fo⟩ ?_
  rintro⟨wq,j,kr,km⟩ ⟨o,hj,b_4,b_5,zr,zm⟩
  refine cP [(0,AT A n cap),(1,AT B n cap2),(4,no g1 0),(5,no g6 0),(6,v4 0),(8,v4 j)] wq G ⟨rfl,rfl,rfl,rfl,rfl,rfl,Fo⟩ (aH (aH ?_))
  by_cases jk:j<n
  ·refine aJ (mv 2 G (pu (v:= v4 n) G (aN G G G true (cG (a:=j) (b:=n) G G) (aA (bB G (b8 (aK (aH (bG (aH ?_))))))))))
   have dc:bV (ms.take j)≠0:=kP h0 j
   obtain⟨ch,bm,ck,bv,dh,dl,fo⟩:=hr.at (i:=j) (by omega)
   obtain⟨cp,cj,bp,cv,dv,dy,ft⟩:=hm.at (i:=j) (by omega)
   have jf:ln ((Int.lcm (bV (ms.take j)) (ms.getD j 0):Int))≤1048577:=(by rw [hJ (by rw [hm.len];omega)];exact g0 hsum (j+1))
   have jt:ln (s%(Int.lcm (bV (ms.take j)) (ms.getD j 0):Int))≤1048577:=a6 (bO (kX dc (h0 j (by rw [hm.len];omega)))) jf
   refine qH bR 17 [12,13,14] [15,16] [Is (J kr.s kr.A kr.n kr.c),Is (J km.s km.A km.n km.c),Is (AT A n cap),Is (v4 j),Is (.pointer (some ch)),Is (.agg #[.bool bm,AT ck (ks.getD j 0) bv]),Is (AT B n cap2),Is (v4 j),Is (.pointer (some cp)),Is (.agg #[.bool cj,AT bp (js.getD j 0) cv]),T3 (ZR w.heap.size (s%(Int.lcm (bV (ms.take j)) (ms.getD j 0):Int))) (ZR w.heap.size ((Int.lcm (bV (ms.take j)) (ms.getD j 0):Int))) (Is (v4 0)),T3 (ZR w.heap.size (s%(Int.lcm (bV (ms.take j)) (ms.getD j 0):Int))) (ZR w.heap.size ((Int.lcm (bV (ms.take j)) (ms.getD j 0):Int))) (Is (v4 0)),ZR w.heap.size (s%(Int.lcm (bV (ms.take j)) (ms.getD j 0):Int)),ZR w.heap.size ((Int.lcm (bV (ms.take j)) (ms.getD j 0):Int)),Is (v4 0),PR wq.heap.size 24 [F0,S0],PR wq.heap.size 24 [F0,S0]] [[],[],[],[],[2,3],[4],[],[],[6,7],[8],[0,1,5,9],[10],[11],[11],[11],[],[]] [[],[],[],[],[2,3],[2,3,4],[],[],[6,7],[6,7,8],[0,1,2,3,4,5,6,7,8,9],[0,1,2,3,4,5,6,7,8,9,10],[0,1,2,3,4,5,6,7,8,9,10,11],[0,1,2,3,4,5,6,7,8,9,10,11],[0,1,2,3,4,5,6,7,8,9,10,11],[],[],[0,1,2,3,4,5,6,7,8,9,10,11,12,15,16],[0,1,2,3,4,5,6,7,8,9,10,11,12,13,15,16,17],[0,1,2,3,4,5,6,7,8,9,10,11,12,13,14,15,16,17,18]] G G ⟨fun _ _ h=>PR.old h,fun _ _ h=>PR.old h,Fo⟩
    (aF G G (aC G G ?_) (aF G G (aC G G ?_) (aF G G (aC G G ?_) (aF G G (aC G G ?_) (aF G G (aC G G ?_) (aF G G (aC G G ?_) (aF G G (aC G G ?_) (aF G G (aC G G ?_) (aF G G (aC G G ?_) (aF G G (aC G G ?_) (aF G G (aC G G ?_) (aF G G (aC G G ?_) (cV G G (cY G ?_) (cV G G (cY G ?_) (cV G G (cY G ?_) (aF G G (mK G ?_) (aF G G (mK G ?_) cE))))))))))))))))) ?_
   ·exact fun _ iw=>aB (lo a8 (b_4.ext iw) (O kr.s kr.A kr.n kr.c) G G G (aE G aD G))
   ·exact fun _ ip=>aB (lo a8 (b_5.ext ip) (O km.s km.A km.n km.c) G G G (aE G aD G))
   ·exact fun _ _=>aB (mv 1 G (aE G aD G))
   ·exact fun _ _=>aB (mv 1 G (aE G aD G))
   ·exact fun _ _=>dk G G (dk G G (aB (bI G G G d9 a8.size j G ch dh (aE G aD G))))
   ·intro _ iy
    have f:=o.trans iy
    refine dk G G (aB (aP G G (dl _ f _ _ a8) ?_))
    exact aE G aD rfl
   ·exact fun _ _=>aB (mv 1 G (aE G aD G))
   ·exact fun _ _=>aB (mv 1 G (aE G aD G))
   ·exact fun _ _=>dk G G (dk G G (aB (bI G G G d9 a8.size j G cp dv (aE G aD G))))
   ·intro _ iu
    have f:=o.trans iu
    refine dk G G (aB (aP G G (dy _ f _ _ a8) ?_))
    exact aE G aD rfl
   ·intro _ df
    have f:=o.trans df
    refine dk G G (dk G G (dk G G (dk G G (aB ?_))))
    have fa:ln ((Int.lcm (bV (ms.take j)) (ms.getD j 0):Int))≤1048577:=(by rw [hJ (by rw [hm.len];omega)];exact g0 hsum (j+1))
    have jj:ln (s%(Int.lcm (bV (ms.take j)) (ms.getD j 0):Int))≤1048577:=a6 (bO (kX dc (h0 j (by rw [hm.len];omega)))) fa
    refine cl (vs:= [J kr.s kr.A kr.n kr.c,J km.s km.A km.n km.c,.agg #[.bool bm,AT ck (ks.getD j 0) bv],.agg #[.bool cj,AT bp (js.getD j 0) cv]]) f (yF f.size (zr.ext df).zi (zr.le (a6 (a6 (bO (kP h0 j)) (g0 hsum j)) (by decide))) (zm.ext df).zi (zm.le (a6 (g0 hsum j) (by decide))) (fo.ext f) (a6 (hkb j) (by decide)) (ft.ext f) (a6 (hjb j) (by decide)) dc (h0 j (by rw [hm.len];omega)) (yO s _) (hs j (by rw [hm.len];omega))) G (by kernel_rfl) fun _ _ go ew am=>?_
    obtain⟨_,_,_,rfl,⟨_,_,_,_,rfl,gi⟩,⟨_,_,_,_,rfl,ep⟩,rfl⟩:=go
    exact aE G ew ⟨_,_,_,rfl,⟨_,_,_,_,rfl,gi⟩,⟨_,_,_,_,rfl,ep⟩,rfl⟩
   ·intro _ _
    refine aO G G fun _ _ gk _ cz=>?_
    obtain⟨_,_,_,rfl,⟨_,_,_,_,rfl,ao⟩,⟨_,_,_,_,rfl,bg⟩,rfl⟩:=gk
    have ao:=ao.ext cz
    have bg:=bg.ext cz
    refine aB (mv 1 G ?_)
    exact aE G aD ⟨_,_,_,rfl,⟨_,_,_,_,rfl,ao⟩,⟨_,_,_,_,rfl,bg⟩,rfl⟩
   ·intro _ _
    refine aO G G fun _ _ fy _ co=>?_
    obtain⟨_,_,_,rfl,⟨gt,ga,fh,gg,rfl,bf⟩,⟨_,_,_,_,rfl,cx⟩,rfl⟩:=fy
    have bf:=bf.ext co
    have cx:=cx.ext co
    refine aB ?_
    exact⟨J gt ga fh gg,rfl,rfl,fun _=>by kernel_rfl,⟨_,_,_,_,rfl,bf⟩⟩
   ·intro _ _
    refine aO G G fun _ _ fb _ bu=>?_
    obtain⟨_,_,_,rfl,⟨_,_,_,_,rfl,bz⟩,⟨fg,io,fc,fk,rfl,bc⟩,rfl⟩:=fb
    have bz:=bz.ext bu
    have bc:=bc.ext bu
    refine aB ?_
    exact⟨J fg io fc fk,rfl,rfl,fun _=>by kernel_rfl,⟨_,_,_,_,rfl,bc⟩⟩
   ·intro _ _
    refine aO G G fun _ _ fx _ ct=>?_
    obtain⟨_,_,_,rfl,⟨_,_,_,_,rfl,cg⟩,⟨_,_,_,_,rfl,da⟩,rfl⟩:=fx
    have cg:=cg.ext ct
    have da:=da.ext ct
    refine aB ?_
    exact⟨v4 0,rfl,rfl,fun _=>by kernel_rfl,rfl⟩
   ·intro _ ig
    refine aB (dW G (z:= .agg #[F0,S0]) (vs:= [F0,S0]) (fun _=>by kernel_rfl) G fun _ _ nb=>?_)
    exact aE G nb.ext ⟨⟨_,rfl,by rw [←nb.at_];exact ig.size,nb.bk⟩,_,rfl,Nat.le_of_eq nb.at_⟩
   ·intro _ ez
    refine aB (dW G (z:= .agg #[F0,S0]) (vs:= [F0,S0]) (fun _=>by kernel_rfl) G fun _ _ nb=>?_)
    exact aE G nb.ext ⟨⟨_,rfl,by rw [←nb.at_];exact ez.size,nb.bk⟩,_,rfl,Nat.le_of_eq nb.at_⟩
   ·intro _ bd
    have f:=o.trans bd
    refine dk G G (dk G G (dk G G (dk G G (dk G G (dk G G (dk G G (dk G G (dk G G (dk G G (aO G G fun _ _ ik _ cn=>?_))))))))))
    obtain⟨_,_,_,rfl,⟨_,_,_,_,rfl,bj⟩,⟨_,_,_,_,rfl,br⟩,rfl⟩:=ik
    have bj:=bj.ext cn
    have br:=br.ext cn
    refine aO G G fun _ _ fj _ cy=>?_
    obtain⟨_,_,_,rfl,⟨_,_,_,_,rfl,cu⟩,⟨_,_,_,_,rfl,bt⟩,rfl⟩:=fj
    have cu:=cu.ext cy
    have bt:=bt.ext cy
    refine aO G G fun _ _ ej _ fm=>?_
    obtain⟨Y,ai,ak,aj,rfl,aw⟩:=ej
    have aw:=aw.ext fm
    refine aO G G fun _ _ fp _ ib=>?_
    obtain⟨aa,Z,ag,ab,rfl,au⟩:=fp
    have au:=au.ext ib
    refine dk G G (aO G G fun _ _ eg _ ge=>?_)
    obtain⟨bh,rfl,E,q⟩:=eg
    have q:=q.ext ge
    have jl:g6<bh:=d4 b_5.lt E
    have E:w.heap.size≤bh:=a6 o.size E
    refine aO G G fun _ _ fw _ gf=>?_
    obtain⟨an,rfl,D,V⟩:=fw
    have V:=V.ext gf
    have ji:g6<an:=d4 b_5.lt D
    have D:w.heap.size≤an:=a6 o.size D
    refine aB ?_
    intro az
    have jo:an≠bh:=fun e=>az 16 (by decide) 15 (by decide) (by decide) _ _ G G _ _ G G _ (bS G) (by rw [e];exact bS G)
    clear az
    refine so a8 q (O Y ai ak aj) f E G G G G fun _ dd I am=>?_
    have L:=(V.vN I)
    refine so a8 L (O aa Z ag ab) am D G G G G fun _ dm H ba=>(mv 1 G (aR (cF (aK (aH (sr (mv 1 G (aN G G G false (by decide) (aA (aV G (b8 (aK (aH ?_)))))))))))))
    refine aJ (lo a8 (dd.vN H) (O Y ai ak aj) G G G ?_)
    have W:=(((b_4.ext bd).vN I).vN H)
    refine so a8 W (O Y ai ak aj) ba dr G G G G fun _ dx ae je=>(aA (aJ (lo a8 (dm.vN ae) (O aa Z ag ab) G G G ?_)))
    have M:=((((b_5.ext bd).vN I).vN H).vN ae)
    refine so a8 M (O aa Z ag ab) je aq G G G G fun fi de av jb=>(aR (bM (aK (aJ (mv 1 G (aT G G G ((j+1:Nat):Int) (bK (a:=j) (b:=1) G G) (mv 1 G (aR (bX (⟨fi,j+1,⟨Y,ai,ak,aj⟩,⟨aa,Z,ag,ab⟩⟩:a7×Nat×ZC×ZC) ⟨jb,(by omega),(dx.vN av),de,(((((aw.updT q I).updT L H).updT W ae).updT M av)).cast (by rw [hJ (by rw [hm.len];omega)]),(((((au.updT q I).updT L H).updT W ae).updT M av)).cast (hJ (by rw [hm.len];omega))⟩ (show n-(j+1)<n-j by omega) G ⟨rfl,rfl,rfl,rfl,rfl,rfl,Fo⟩)))))))))
  ·have iz:j=n:=by omega
   refine aJ (mv 2 G (pu (v:= v4 n) G (aN G G G false (cL (a:=j) (b:=n) G G) (aA (aV G (cR (cK (cN (cO (aK (aH (bH [(0,AT A n cap),(1,AT B n cap2),(4,no g1 0),(5,no g6 0),(8,v4 j),(35,v4 j),(36,AT B n cap2),(37,v4 n),(38,BY)] ⟨rfl,rfl,rfl,rfl,rfl,rfl,rfl,rfl,rfl,Fo⟩ ?_))))))))))))
   obtain⟨bo,hv,p⟩:∃v,v=wq.drew∧Ext wq v:=⟨_,rfl,aD.drew⟩
   have f:=o.trans p
   have X:=(b_4.ext p)
   obtain⟨gj,dz,du,F,_⟩:=eV (P:=aM) (us:= (O kr.s kr.A kr.n kr.c)) (off:=0) a8 G X (bq G) G (O kr.s kr.A kr.n kr.c) rfl
   have am:=F.ext f dr
   have U:=((b_5.ext p).vN F)
   obtain⟨il,dn,dg,ah,_⟩:=eV (P:=aM) (us:= (O km.s km.A km.n km.c)) (off:=0) a8 G U (bq G) G (O km.s km.A km.n km.c) rfl
   have ba:=ah.ext am aq
   refine gI bR (w:=bo) [J kr.s kr.A kr.n kr.c,J km.s km.A km.n km.c,undef,undef,I0] [bo,gj,il] [2,3] [[],[],[0],[1],[]] [[],[],[0],[0,1,2],[0,1,2,3]] [(0,0),(1,0),(1,1),(2,0),(3,1),(4,2)] G hv ?_ ?_
   ·refine aX _ G G G G G (cB G (aW a8 (b_4.ext p) (O kr.s kr.A kr.n kr.c) G (bq G) G)) (aX _ G G G G G (cB G (aW a8 (b_5.ext p) (O km.s km.A km.n km.c) G (bq G) G)) (aX _ G G G G G (cB G (aW a8 ((b_5.ext p).vN F) (O km.s km.A km.n km.c) G (bq G) G)) (f7 _ G G G G G (eR G G dz) (f7 _ G G G G G (eR G G dn) (aX _ G G G G G (kL G) ?_)))))
    exact gH
   clear hv
   refine fU [(0,AT A n cap),(1,AT B n cap2),(4,no g1 0),(5,no g6 0),(8,v4 j),(35,v4 j),(36,AT B n cap2),(37,v4 n),(38,BY),(63,J kr.s kr.A kr.n kr.c),(64,J km.s km.A km.n km.c),(6,v4 0)] ⟨rfl,rfl,rfl,rfl,rfl,rfl,rfl,rfl,rfl,rfl,rfl,rfl,Fo⟩ (aK (bD (bC [J kr.s kr.A kr.n kr.c,J km.s km.A km.n km.c,I0] G ⟨⟨_,rfl,aW a8 (du.vN ah) (O kr.s kr.A kr.n kr.c) G (bq G) rfl⟩,⟨_,rfl,aW a8 dg (O km.s km.A km.n km.c) G (bq G) rfl⟩,rfl,Fo⟩ ?_)))
   have ar:ms.take j=ms:=by rw [iz,nA hm]
   exact⟨_,rfl,⟨_,_,_,rfl,⟨_,_,_,_,rfl,(((((zr.ext p).updT X F).updT U ah)).cast (by rw [ar])).mono hb⟩,⟨_,_,_,_,rfl,(((((zm.ext p).updT X F).updT U ah)).cast (by rw [ar])).mono hb⟩,rfl⟩,ba⟩
theorem QV (hb:b≤w.heap.size){m:Nat}(hne:n≠m):aQ aM 51 #[AT A n cap,AT B m cap2] w (Gv w (TA (ZR b 0) (ZR b 0) (Is (v4 2)))):=by
 refine bP Tryz.func51 G (n:=58) G (bq G) (args:= [AT A n cap,AT B m cap2]) (bH [(0,AT A n cap),(1,AT B m cap2)] ⟨rfl,rfl,Fo⟩ (sr (al [F0,S0] (Ext.refl w) (fun _=>by kernel_rfl) G fun _ _ D V _ I=>(bF [F0,S0] I D.lt (fun _=>by kernel_rfl) G fun _ X U H _ Y M=>(mv 1 G (aA (aH (sr (mv 1 G (pu (v:= v4 n) G (mv 1 G (pu (v:= v4 m) G (aN G G G true (vA (a:=n) (b:=m) G G) ?_)))))))))))))
 refine aA (bB G (sr (pu (v:= .agg #[F0,S0]) G (pu (v:= .agg #[F0,S0]) G ?_))))
 have f:=(D.ext Y)
 refine so a8 f [F0,S0] M V G G G G fun _ E q L=>?_
 have o:=(U.vN q)
 refine so a8 o [F0,S0] L H G G G G fun _ F p W=>(mv 1 G (aA (bD (cT (bC [.agg #[F0,S0],.agg #[F0,S0],v4 2] G ⟨⟨_,rfl,aW a8 (E.vN p) [F0,S0] G (bq G) rfl⟩,⟨_,rfl,aW a8 F [F0,S0] G (bq G) rfl⟩,rfl,Fo⟩ ?_)))))
 exact⟨_,rfl,⟨_,_,_,rfl,⟨_,_,_,_,rfl,((((Zr.zero (w:=X) (base:=w.heap.size)).updT f q).updT o p)).mono hb⟩,⟨_,_,_,_,rfl,((((Zr.zero (w:=X) (base:=w.heap.size)).updT f q).updT o p)).mono hb⟩,rfl,fun _ h _=>lQ h⟩,W⟩
theorem SS (hw:Wf xs)(hl:xs.length=n)(h:n≤i/64):nv xs/2^i%2=0:=by
 have f:=gW hw
 rw [hl,kD,←Nat.pow_mul] at f
 have o:2^(64*n)≤2^i:=i6 (by omega) (by omega)
 rw [gC (by omega)]
theorem GS (hw:Wf xs)(hl:xs.length=n)(h:i/64<n):nv xs/2^i%2=xs.getD (i/64) 0/2^(i%64)%2:=by
 have f:=lN xs (i/64) (by omega)
 have D:nv (xs.drop (i/64))=xs.getD (i/64) 0+WB*nv (xs.drop (i/64+1)):=by
  rw [mG,mG,List.drop_eq_getElem_cons (by omega),kV,bE,cA (by omega)];rfl
 have q:2^i=WB^(i/64)*2^(i%64):=by
  rw [kD,←Nat.pow_mul,←dU];congr 1;omega
 have p:nv (xs.take (i/64))<WB^(i/64):=jF hw _
 rw [f,q,←Nat.div_div_eq_div_mul,qZ _ _ (iO (by decide)),gC p,Nat.zero_add,D]
 have o:WB=2^(i%64)*(2*2^(63-i%64)):=by
  rw [kD,←Nat.pow_succ',←dU];congr 1;omega
 conv=>lhs;rw [o]
 rw [bZ,qZ _ _ (iO (by decide)),bZ,Nat.add_mul_mod_self_left]
theorem Q0 (hx:Rd w A n cap xs)(hi:i≤9223372036854775807):aQ aM 80 #[AT A n cap,v4 i] w (Gv w (Is (v4 ((nv xs/2^i%2:Nat):Int)))):=by
 have F:=hx.rv.le
 have q:=hx.rv.max
 rw [eB] at q
 refine bP Tryz.func80 G (n:=25) G (bq G) (args:= [AT A n cap,v4 i]) (bH [(0,AT A n cap),(1,v4 i)] ⟨rfl,rfl,Fo⟩ (sr (mv 1 G (aA (aH (aH ?_))))))
 by_cases D:i/64≥n
 ·refine aJ (mv 1 G (aN G G G false (cL (a:=i) (b:=0) G G) (mv 2 G (aT G G G ((i/64:Nat):Int) (oW (a:=i) (b:=64) G G) (mv 1 G (pu (v:= v4 n) G (aN G G G true (qJ (a:=i/64) (b:=n) G G) (pu (v:= By) G (aA (bB G (sr (mv 1 G (aR ?_)))))))))))))
  refine aK (bD (cT (bC [I0] G ⟨rfl,Fo⟩ ?_)))
  exact⟨_,rfl,(show (v4 0:aI)=gK .i64 ((nv xs/2^i%2:Nat):Int) by rw [SS hx.wf hx.len (by omega)];rfl),(Ext.refl w)⟩
 ·have p:xs.getD (i/64) 0≤18446744073709551615:=by have:=p8 hx.wf (i/64);rw [cI] at this;omega
  have f:xs.getD (i/64) 0/2^(i%64)≤18446744073709551615:=a6 (i8 _ _) p
  refine aJ (mv 1 G (aN G G G false (cL (a:=i) (b:=0) G G) (mv 2 G (aT G G G ((i/64:Nat):Int) (oW (a:=i) (b:=64) G G) (mv 1 G (pu (v:= v4 n) G (aN G G G false (GL (a:=i/64) (b:=n) G G (by omega)) (pu (v:= BY) G (aA (aV G (b8 (aK (aH ?_)))))))))))))
  refine aJ (mv 2 G (aT G G G ((i/64:Nat):Int) (oW (a:=i) (b:=64) G G) ?_))
  obtain⟨E,h,o,_⟩:=(hx).at (i:=i/64) (by omega)
  refine bI G G G bT bL (i/64) G E h (aP G G (dC d6 o) (mv 1 G (aT G G G ((i%64:Nat):Int) (jL (a:=i) (b:=64) G G) (kS G G (v:= AI (IntKind.u64.wrap ((i%64:Nat):Int))) (v':= AI ((i%64:Nat):Int)) (nS (by first | omega | exact f)) (AU G G G (r:= AI (((xs.getD (i/64) 0)/2^(i%64):Nat):Int)) G (fun w=>mE (x:=xs.getD (i/64) 0) (s:=i%64) (by omega) _ _ w) (by decide) (AU G G G (r:= AI ((((xs.getD (i/64) 0)/2^(i%64))%2:Nat):Int)) G (fun w=>JL (x:=(xs.getD (i/64) 0)/2^(i%64)) (by first | omega | exact f) _ _ w) (by decide) (kS G G (v:= v4 (IntKind.i64.wrap ((((xs.getD (i/64) 0)/2^(i%64))%2:Nat):Int))) (v':= v4 ((((xs.getD (i/64) 0)/2^(i%64))%2:Nat):Int)) (RY (by first | omega | exact f)) (mv 1 G (aA (bD (bC [v4 ((((xs.getD (i/64) 0)/2^(i%64))%2:Nat):Int)] G ⟨rfl,Fo⟩ ?_)))))))))))
  exact⟨_,rfl,(show (v4 ((((xs.getD (i/64) 0)/2^(i%64))%2:Nat):Int):aI)=gK .i64 ((nv xs/2^i%2:Nat):Int) by rw [GS hx.wf hx.len (by omega)]),(Ext.refl w)⟩
theorem PZ {m:Nat}(hx:Wi w A n c m)(hl:n≤1099511627775):aQ aM 56 #[AT A n c] w (Gv w (Is (v4 ((dP m:Nat):Int)))):=by
 obtain⟨xs,f,rfl⟩:=hx
 refine (DG f hl).mono fun e w' h=>?_
 obtain⟨k,p,rfl,o⟩:=h
 exact⟨_,rfl,(show gK .i64 (k:Int)=_ by rw [p.out]),o⟩
theorem FA {m:Nat}(hx:Wi w A n c m)(hi:i≤9223372036854775807):aQ aM 80 #[AT A n c,v4 (i:Int)] w (Gv w (Is (v4 ((m/2^i%2:Nat):Int)))):=by
 obtain⟨xs,f,rfl⟩:=hx
 exact Q0 f hi
theorem CT:E/2^(j+1)=E/2^j/2:=by rw [Nat.div_div_eq_div_mul,dJ]
theorem M6 (h:¬E/2^j%2=1):((x^(E/2^(j+1))%z)*(x^(E/2^(j+1))%z))%z=x^(E/2^j)%z:=by
 rw [←Int.mul_emod,←Int.pow_add,CT]
 congr 2
 omega
theorem M1 (h:E/2^j%2=1):((((x^(E/2^(j+1))%z)*(x^(E/2^(j+1))%z))%z)*(x%z))%z=x^(E/2^j)%z:=by
 rw [←Int.mul_emod (x^(E/2^(j+1))),←Int.pow_add,←Int.mul_emod,←Int.pow_succ,CT]
 congr 2
 omega
theorem SQ {m:Nat}(h:(wd m).length≤n):dP m≤64*n:=by
 refine vD ?_
 have f:=nK m
 rw [kD,←Nat.pow_mul] at f
 exact d4 f (i6 (by decide) (fG _ h))
theorem SP {m:Nat}:m/2^dP m=0:=gC (rV m)
theorem QI {nb:Nat}(hx:Zi w sa Aa na ca x)(la:na≤8589934592)(hy:Zi w sf Af nf cf y)(lf:nf≤8589934592)(hz:Zi w sb Ab nb cb z)(lb:nb≤8589934592)(h0:y<0):aQ aM 49 #[J sa Aa na ca,J sf Af nf cf,J sb Ab nb cb] w (Gv w (T2 (ZR w.heap.size (0)) (Is (v4 3)))):=by
 have Lx:ln x≤8589934592:=a6 hx.ln la
 have Ly:ln y≤8589934592:=a6 hy.ln lf
 have Lz:ln z≤8589934592:=a6 hz.ln lb
 refine bP Tryz.func49 G (n:=65) G (bq G) (args:= [J sa Aa na ca,J sf Af nf cf,J sb Ab nb cb]) (bH [(0,J sa Aa na ca),(1,J sf Af nf cf),(2,J sb Ab nb cb)] ⟨rfl,rfl,rfl,Fo⟩ (sr (bx (O sa Aa na ca) (Ext.refl w) G G G fun _ _ H _ _ X=>(d5 (O sf Af nf cf) X H.lt G G G fun _ _ o _ _ _ I=>(d5 (O sb Ab nb cb) I o.lt G G G fun _ _ h _ _ V Y=>(bF [F0,S0] Y h.lt (fun _=>by kernel_rfl) G fun _ _ p q _ F D=>(mv 1 G (aA (aH (bG (sr (lo a8 (o.ext (V.t F)) (O sf Af nf cf) G G G (cl (vs:= [J sf Af nf cf]) D (f6 (hy.ext D) (aL lf G)) G (by kernel_rfl) fun _ L M U aa=>?_)))))))))))))
 obtain rfl:=M
 refine aN G G G true (tO h0) (mv 1 G (aA (bB G (sr (pu (v:= .agg #[F0,S0]) G ?_)))))
 have f:=(p.ext U)
 refine so a8 f [F0,S0] aa q G G G G fun _ E W Z=>(mv 1 G (aA (bD (iB (cT (bC [.agg #[F0,S0],v4 3] G ⟨⟨_,rfl,aW a8 E [F0,S0] G (bq G) rfl⟩,rfl,Fo⟩ ?_))))))
 exact⟨_,rfl,⟨_,_,rfl,⟨_,_,_,_,rfl,((Zr.zero (w:=L) (base:=w.heap.size)).updT f W)⟩,rfl⟩,Z⟩
theorem QJ {nb:Nat}(hb:b≤w.heap.size)(hx:Zi w sa Aa na ca x)(la:na≤8589934592)(hy:Zi w sf Af nf cf y)(lf:nf≤8589934592)(hz:Zi w sb Ab nb cb z)(lb:nb≤8589934592)(h0:y<0):aQ aM 49 #[J sa Aa na ca,J sf Af nf cf,J sb Ab nb cb] w (Gv w (T2 (ZR b (0)) (Is (v4 3)))):=(QI hx la hy lf hz lb h0).mono (Gv.imp (T2.imp (ZR.imp hb) Is.imp))
theorem QE {nb:Nat}(hx:Zi w sa Aa na ca x)(la:na≤8589934592)(hy:Zi w sf Af nf cf y)(lf:nf≤8589934592)(hz:Zi w sb Ab nb cb z)(lb:nb≤8589934592)(h0:0≤y)(hm0:z=0):aQ aM 49 #[J sa Aa na ca,J sf Af nf cf,J sb Ab nb cb] w (Gv w (T2 (ZR w.heap.size (0)) (Is (v4 4)))):=by
 have Lx:ln x≤8589934592:=a6 hx.ln la
 have Ly:ln y≤8589934592:=a6 hy.ln lf
 have Lz:ln z≤8589934592:=a6 hz.ln lb
 refine bP Tryz.func49 G (n:=65) G (bq G) (args:= [J sa Aa na ca,J sf Af nf cf,J sb Ab nb cb]) (bH [(0,J sa Aa na ca),(1,J sf Af nf cf),(2,J sb Ab nb cb)] ⟨rfl,rfl,rfl,Fo⟩ (sr (bx (O sa Aa na ca) (Ext.refl w) G G G fun _ _ L _ _ Z=>(d5 (O sf Af nf cf) Z L.lt G G G fun _ _ p _ _ _ M=>(d5 (O sb Ab nb cb) M p.lt G G G fun _ _ f _ _ W aa=>(bF [F0,S0] aa f.lt (fun _=>by kernel_rfl) G fun _ _ D E _ o F=>(mv 1 G (aA (aH (bG (sr (lo a8 (p.ext (W.t o)) (O sf Af nf cf) G G G (cl (vs:= [J sf Af nf cf]) F (f6 (hy.ext F) (aL lf G)) G (by kernel_rfl) fun _ _ U q H=>?_)))))))))))))
 obtain rfl:=U
 refine aN G G G false (pV h0) (mv 1 G (aA (aV G (sr (lo a8 (f.ext (o.t q)) (O sb Ab nb cb) G G G (cl (vs:= [J sb Ab nb cb]) H (f6 (hz.ext H) (aL lb G)) G (by kernel_rfl) fun _ ag X V ab=>?_))))))
 obtain rfl:=X
 refine aN G G G true (iY hm0) (mv 1 G (aA (bB G (sr (pu (v:= .agg #[F0,S0]) G ?_)))))
 have h:=(D.ext (q.t V))
 refine so a8 h [F0,S0] ab E G G G G fun _ I Y ae=>(mv 1 G (aA (bD (iB (cT (bC [.agg #[F0,S0],v4 4] G ⟨⟨_,rfl,aW a8 I [F0,S0] G (bq G) rfl⟩,rfl,Fo⟩ ?_))))))
 exact⟨_,rfl,⟨_,_,rfl,⟨_,_,_,_,rfl,((Zr.zero (w:=ag) (base:=w.heap.size)).updT h Y)⟩,rfl⟩,ae⟩
theorem QF {nb:Nat}(hb:b≤w.heap.size)(hx:Zi w sa Aa na ca x)(la:na≤8589934592)(hy:Zi w sf Af nf cf y)(lf:nf≤8589934592)(hz:Zi w sb Ab nb cb z)(lb:nb≤8589934592)(h0:0≤y)(hm0:z=0):aQ aM 49 #[J sa Aa na ca,J sf Af nf cf,J sb Ab nb cb] w (Gv w (T2 (ZR b (0)) (Is (v4 4)))):=(QE hx la hy lf hz lb h0 hm0).mono (Gv.imp (T2.imp (ZR.imp hb) Is.imp))
theorem QG {nb:Nat}(hx:Zi w sa Aa na ca x)(la:na≤8589934592)(hy:Zi w sf Af nf cf y)(lf:nf≤8589934592)(hz:Zi w sb Ab nb cb z)(lb:nb≤8589934592)(h0:0≤y)(hm0:z≠0):aQ aM 49 #[J sa Aa na ca,J sf Af nf cf,J sb Ab nb cb] w (Gv w (T2 (ZR w.heap.size (x^Int.natAbs y%z)) (Is (v4 0)))):=by
 have Lx:ln x≤8589934592:=a6 hx.ln la
 have Ly:ln y≤8589934592:=a6 hy.ln lf
 have Lz:ln z≤8589934592:=a6 hz.ln lb
 refine bP Tryz.func49 G (n:=65) G (bq G) (args:= [J sa Aa na ca,J sf Af nf cf,J sb Ab nb cb]) (bH [(0,J sa Aa na ca),(1,J sf Af nf cf),(2,J sb Ab nb cb)] ⟨rfl,rfl,rfl,Fo⟩ (sr (bx (O sa Aa na ca) (Ext.refl w) G G G fun g1 _ ei _ _ bi=>(d5 (O sf Af nf cf) bi ei.lt G G G fun g6 _ cm _ _ e8 U=>(d5 (O sb Ab nb cb) U cm.lt G G G fun dy _ an _ _ ck ao=>(bF [F0,S0] ao an.lt (fun _=>by kernel_rfl) G fun co _ ct il _ ag ar=>(mv 1 G (aA (aH (bG (sr (lo a8 (cm.ext (ck.t ag)) (O sf Af nf cf) G G G (cl (vs:= [J sf Af nf cf]) ar (f6 (hy.ext ar) (aL lf G)) G (by kernel_rfl) fun _ _ ll ab X=>?_)))))))))))))
 obtain rfl:=ll
 refine aN G G G false (pV h0) (mv 1 G (aA (aV G (sr (lo a8 (an.ext (ag.t ab)) (O sb Ab nb cb) G G G (cl (vs:= [J sb Ab nb cb]) X (f6 (hz.ext X) (aL lb G)) G (by kernel_rfl) fun _ lj ma ae aq=>?_))))))
 obtain rfl:=ma
 refine aN G G G false (fE hm0) (mv 1 G (aA (aV G (b8 (bM (aK (aH ?_)))))))
 have nw:ln (1%z)≤8589934592:=a6 (bO hm0) Lz
 refine cU bR 7 [4,5] [ZR w.heap.size (1),Is (J sb Ab nb cb),T2 (ZR w.heap.size (1%z)) (Is (v4 0)),T2 (ZR w.heap.size (1%z)) (Is (v4 0)),ZR w.heap.size (1%z),Is (v4 0),PR lj.heap.size 24 [F0,S0]] [[],[],[0,1],[2],[3],[3],[]] [[],[],[0,1],[0,1,2],[0,1,2,3],[0,1,2,3],[],[0,1,2,3,4,6],[0,1,2,3,4,5,6,7]] rfl
  (aF G G (aC G G ?_) (aF G G (aC G G ?_) (aF G G (aC G G ?_) (aF G G (aC G G ?_) (cV G G (cY G ?_) (cV G G (cY G ?_) (aF G G (aC G G ?_) cE))))))) ?_
 ·intro _ mt
  have aw:=aq.trans mt
  refine aB (cl (vs:= [v4 1]) aw (lS aw.size (by decide) (by decide)) G (by kernel_rfl) fun _ _ md lm bh=>?_)
  obtain⟨_,_,_,_,rfl,lh⟩:=md
  exact aE G lm ⟨_,_,_,_,rfl,lh⟩
 ·exact fun _ mb=>aB (lo a8 (an.ext (ag.t (ab.t (ae.t mb)))) (O sb Ab nb cb) G G G (aE G aD G))
 ·intro _ ml
  have aw:=aq.trans ml
  refine aO G G fun _ _ lu _ mz=>?_
  obtain⟨mm,mi,me,mr,rfl,cn⟩:=lu
  have cn:=cn.ext mz
  refine dk G G (aB ?_)
  have nx:ln (1%z)≤8589934592:=a6 (bO hm0) Lz
  refine cl (vs:= [J mm mi me mr,J sb Ab nb cb]) aw (oP aw.size cn.zi (cn.le (a6 (show ln (1)≤1 by decide+kernel) (by decide))) (hz.ext aw) (aL lb G) hm0) G (by kernel_rfl) fun _ _ nh mf bh=>?_
  obtain⟨_,_,rfl,⟨_,_,_,_,rfl,mw⟩,rfl⟩:=nh
  exact aE G mf ⟨_,_,rfl,⟨_,_,_,_,rfl,mw⟩,rfl⟩
 ·intro _ _
  refine aO G G fun _ _ mo _ mg=>?_
  obtain⟨_,_,rfl,⟨_,_,_,_,rfl,eh⟩,rfl⟩:=mo
  have eh:=eh.ext mg
  refine aB (mv 1 G ?_)
  exact aE G aD ⟨_,_,rfl,⟨_,_,_,_,rfl,eh⟩,rfl⟩
 ·intro _ _
  refine aO G G fun _ _ mq _ mj=>?_
  obtain⟨_,_,rfl,⟨mn,lg,my,lv,rfl,ef⟩,rfl⟩:=mq
  have ef:=ef.ext mj
  refine aB ?_
  exact⟨J mn lg my lv,rfl,rfl,fun _=>by kernel_rfl,⟨_,_,_,_,rfl,ef⟩⟩
 ·intro _ _
  refine aO G G fun _ _ mu _ ng=>?_
  obtain⟨_,_,rfl,⟨_,_,_,_,rfl,ge⟩,rfl⟩:=mu
  have ge:=ge.ext ng
  refine aB ?_
  exact⟨v4 0,rfl,rfl,fun _=>by kernel_rfl,rfl⟩
 ·intro _ mh
  refine aB (dW G (z:= .agg #[F0,S0]) (vs:= [F0,S0]) (fun _=>by kernel_rfl) G fun _ _ nb=>?_)
  exact aE G nb.ext ⟨_,rfl,by rw [←nb.at_];exact mh.size,nb.bk⟩
 ·intro _ aj
  have aw:=aq.trans aj
  refine aO G G fun _ _ mx _ ie=>?_
  obtain⟨_,_,_,_,rfl,dc⟩:=mx
  have dc:=dc.ext ie
  refine dk G G (aO G G fun _ _ kn _ ji=>?_)
  obtain⟨_,_,rfl,⟨_,_,_,_,rfl,de⟩,rfl⟩:=kn
  have de:=de.ext ji
  refine aO G G fun _ _ kq _ fe=>?_
  obtain⟨_,_,rfl,⟨_,_,_,_,rfl,cx⟩,rfl⟩:=kq
  have cx:=cx.ext fe
  refine aO G G fun _ _ ky _ ew=>?_
  obtain⟨dg,dl,cp,dm,rfl,ch⟩:=ky
  have ch:=ch.ext ew
  refine dk G G (aO G G fun _ _ jz _ fh=>?_)
  obtain⟨ai,rfl,p,ah⟩:=jz
  have ah:=ah.ext fh
  have nt:co<ai:=d4 (ct.ext (ab.t ae)).lt p
  have p:w.heap.size≤ai:=a6 aq.size p
  refine aB (so a8 ah (O dg dl cp dm) aw p G G G G fun _ bm D bh=>(mv 1 G (aR (cF (aK (sr (lo a8 ((ei.ext (e8.t (ck.t (ag.t (ab.t (ae.t aj)))))).vN D) (O sa Aa na ca) G G G (lo a8 ((an.ext (ag.t (ab.t (ae.t aj)))).vN D) (O sb Ab nb cb) G G G ?_))))))))
  have bu:ln (x%z)≤8589934592:=a6 (bO hm0) Lz
  refine cl (vs:= [J sa Aa na ca,J sb Ab nb cb]) bh (oP bh.size (hx.ext bh) (aL la G) (hz.ext bh) (aL lb G) hm0) G (by kernel_rfl) fun _ _ fm F lp=>?_
  obtain⟨_,_,rfl,⟨Y,V,aa,Z,rfl,jo⟩,rfl⟩:=fm
  refine mv 1 G (pu (v:= J Y V aa Z) G (pu (v:= v4 0) G (bF [F0,S0] lp (bm.ext F).lt (fun _=>by kernel_rfl) G fun bz _ ba eg _ H jf=>(so a8 ba (O Y V aa Z) jf eg G G G G fun _ dz L dv=>(mv 1 G (aA (aH (aH ?_))))))))
  have ny:dP (Int.natAbs y)≤64*8589934592:=SQ (show (wd (Int.natAbs y)).length≤8589934592 from Ly)
  refine aJ (pf g6 1 G (aP G G (bA cZ ((((cm.ext (ck.t (ag.t (ab.t (ae.t aj))))).vN D).ext (F.t H)).vN L) G) (cl (vs:= [AT Af nf cf]) dv (PZ (hy.ext dv).wi (aL lf G)) G (by kernel_rfl) fun _ jc ep I ix=>?_)))
  obtain rfl:=ep
  refine aT G G G (((dP (Int.natAbs y):Nat):Int)-1) (kB G) (mv 1 G (aA (bG ?_)))
  refine cQ (T:=a7×Nat×Int×ZC)
   (fun⟨wr,k,ii,kp⟩=> [(3,no g1 0),(4,no g6 0),(5,no dy 0),(6,no co 0),(7,v4 0),(8,no ai 0),(10,no bz 0),(12,v4 ii)])
   (fun⟨wr,k,ii,kp⟩=>wr)
   (fun⟨wr,k,ii,kp⟩=>(Ext w wr)∧(k≤dP (Int.natAbs y))∧(ii=(k:Int)-1)∧(Bk wr g1 24 (O sa Aa na ca))∧(Bk wr g6 24 (O sf Af nf cf))∧(Bk wr dy 24 (O sb Ab nb cb))∧(Bk wr co 24 [F0,S0])∧(Bk wr ai 24 (O kp.s kp.A kp.n kp.c))∧(Bk wr bz 24 (O Y V aa Z))∧(Zr wr w.heap.size kp.s kp.A kp.n kp.c (x^(Int.natAbs y/2^k)%z))∧(Zr wr w.heap.size Y V aa Z (x%z)))
   (fun⟨wr,k,ii,kp⟩=>k)
   (⟨jc,dP (Int.natAbs y),_,⟨dg,dl,cp,dm⟩⟩:a7×Nat×Int×ZC) ⟨ix,aS _,rfl,(((((ei.ext (e8.t (ck.t (ag.t (ab.t (ae.t aj)))))).vN D).ext (F.t H)).vN L).ext I),(((((cm.ext (ck.t (ag.t (ab.t (ae.t aj))))).vN D).ext (F.t H)).vN L).ext I),(((((an.ext (ag.t (ab.t (ae.t aj)))).vN D).ext (F.t H)).vN L).ext I),(((((ct.ext (ab.t (ae.t aj))).vN D).ext (F.t H)).vN L).ext I),(((bm.ext (F.t H)).vN L).ext I),(dz.ext I),(((((ch.updT ah D).ext (F.t H)).updT ba L).ext I)).cast (by rw [SP,Int.pow_zero]),(((jo.ext H).updT ba L).ext I)⟩ G ⟨rfl,rfl,rfl,rfl,rfl,rfl,rfl,rfl,Fo⟩ ?_
  rintro⟨wr,k,ii,kp⟩ ⟨bi,_,_,b_3,b_4,b_5,b_6,b_8,b_10,zp,zb⟩
  refine cP [(3,no g1 0),(4,no g6 0),(5,no dy 0),(6,no co 0),(7,v4 0),(8,no ai 0),(10,no bz 0),(12,v4 ii)] wr G ⟨rfl,rfl,rfl,rfl,rfl,rfl,rfl,rfl,Fo⟩ (aH (aH ?_))
  by_cases nz:0<k
  ·obtain⟨j,rfl⟩:∃j,k=j+1:=⟨k-1,by omega⟩
   obtain rfl:ii=(j:Int):=by omega
   refine aJ (mv 1 G (aN G G G true (yC) (aA (bB G (b8 (aK (aH (bG (aH ?_)))))))))
   have jp:ln ((x^(Int.natAbs y/2^(j+1))%z)*(x^(Int.natAbs y/2^(j+1))%z))≤17179869184:=a6 (dR (a6 (bO hm0) Lz) (a6 (bO hm0) Lz)) (by decide)
   have br:ln (((x^(Int.natAbs y/2^(j+1))%z)*(x^(Int.natAbs y/2^(j+1))%z))%z)≤8589934592:=a6 (bO hm0) Lz
   refine cU bR 8 [6,7] [Is (J kp.s kp.A kp.n kp.c),Is (J kp.s kp.A kp.n kp.c),ZR w.heap.size ((x^(Int.natAbs y/2^(j+1))%z)*(x^(Int.natAbs y/2^(j+1))%z)),Is (J sb Ab nb cb),T2 (ZR w.heap.size (((x^(Int.natAbs y/2^(j+1))%z)*(x^(Int.natAbs y/2^(j+1))%z))%z)) (Is (v4 0)),T2 (ZR w.heap.size (((x^(Int.natAbs y/2^(j+1))%z)*(x^(Int.natAbs y/2^(j+1))%z))%z)) (Is (v4 0)),ZR w.heap.size (((x^(Int.natAbs y/2^(j+1))%z)*(x^(Int.natAbs y/2^(j+1))%z))%z),Is (v4 0)] [[],[],[0,1],[],[2,3],[4],[5],[5]] [[],[],[0,1],[],[0,1,2,3],[0,1,2,3,4],[0,1,2,3,4,5],[0,1,2,3,4,5],[0,1,2,3,4,5,6]] rfl
    (aF G G (aC G G ?_) (aF G G (aC G G ?_) (aF G G (aC G G ?_) (aF G G (aC G G ?_) (aF G G (aC G G ?_) (aF G G (aC G G ?_) (cV G G (cY G ?_) (cV G G (cY G ?_) cE)))))))) ?_
   ·exact fun _ gy=>aB (lo a8 (b_8.ext gy) (O kp.s kp.A kp.n kp.c) G G G (aE G aD G))
   ·exact fun _ ig=>aB (lo a8 (b_8.ext ig) (O kp.s kp.A kp.n kp.c) G G G (aE G aD G))
   ·intro _ cj
    have U:=bi.trans cj
    refine dk G G (dk G G (aB ?_))
    have nl:ln ((x^(Int.natAbs y/2^(j+1))%z)*(x^(Int.natAbs y/2^(j+1))%z))≤17179869184:=a6 (dR (a6 (bO hm0) Lz) (a6 (bO hm0) Lz)) (by decide)
    refine cl (vs:= [J kp.s kp.A kp.n kp.c,J kp.s kp.A kp.n kp.c]) U (mL U.size (zp.ext cj).zi (zp.le (a6 (a6 (bO hm0) Lz) (by decide))) (zp.ext cj).zi (zp.le (a6 (a6 (bO hm0) Lz) (by decide)))) G (by kernel_rfl) fun _ _ gj kj ao=>?_
    obtain⟨_,_,_,_,rfl,iw⟩:=gj
    exact aE G kj ⟨_,_,_,_,rfl,iw⟩
   ·exact fun _ ip=>aB (lo a8 (b_5.ext ip) (O sb Ab nb cb) G G G (aE G aD G))
   ·intro _ kz
    have U:=bi.trans kz
    refine aO G G fun _ _ iz _ kx=>?_
    obtain⟨iu,kw,fc,fd,rfl,bf⟩:=iz
    have bf:=bf.ext kx
    refine dk G G (aB ?_)
    have nj:ln (((x^(Int.natAbs y/2^(j+1))%z)*(x^(Int.natAbs y/2^(j+1))%z))%z)≤8589934592:=a6 (bO hm0) Lz
    refine cl (vs:= [J iu kw fc fd,J sb Ab nb cb]) U (oP U.size bf.zi (bf.le (aL jp G)) (hz.ext U) (aL lb G) hm0) G (by kernel_rfl) fun _ _ gt ey ao=>?_
    obtain⟨_,_,rfl,⟨_,_,_,_,rfl,fv⟩,rfl⟩:=gt
    exact aE G ey ⟨_,_,rfl,⟨_,_,_,_,rfl,fv⟩,rfl⟩
   ·intro _ _
    refine aO G G fun _ _ gi _ iq=>?_
    obtain⟨_,_,rfl,⟨_,_,_,_,rfl,bt⟩,rfl⟩:=gi
    have bt:=bt.ext iq
    refine aB (mv 1 G ?_)
    exact aE G aD ⟨_,_,rfl,⟨_,_,_,_,rfl,bt⟩,rfl⟩
   ·intro _ _
    refine aO G G fun _ _ fg _ gf=>?_
    obtain⟨_,_,rfl,⟨jx,fa,fq,ku,rfl,cg⟩,rfl⟩:=fg
    have cg:=cg.ext gf
    refine aB ?_
    exact⟨J jx fa fq ku,rfl,rfl,fun _=>by kernel_rfl,⟨_,_,_,_,rfl,cg⟩⟩
   ·intro _ _
    refine aO G G fun _ _ go _ jy=>?_
    obtain⟨_,_,rfl,⟨_,_,_,_,rfl,df⟩,rfl⟩:=go
    have df:=df.ext jy
    refine aB ?_
    exact⟨v4 0,rfl,rfl,fun _=>by kernel_rfl,rfl⟩
   ·intro _ h
    have U:=bi.trans h
    refine dk G G (dk G G (aO G G fun _ _ fo _ fw=>?_))
    obtain⟨_,_,_,_,rfl,dh⟩:=fo
    have dh:=dh.ext fw
    refine dk G G (aO G G fun _ _ fk _ jg=>?_)
    obtain⟨_,_,rfl,⟨_,_,_,_,rfl,dd⟩,rfl⟩:=fk
    have dd:=dd.ext jg
    refine aO G G fun _ _ jr _ ez=>?_
    obtain⟨_,_,rfl,⟨_,_,_,_,rfl,du⟩,rfl⟩:=jr
    have du:=du.ext ez
    refine aO G G fun _ _ kc _ jv=>?_
    obtain⟨ak,av,az,am,rfl,au⟩:=kc
    have au:=au.ext jv
    refine dk G G (aB ?_)
    have q:=(b_8.ext h)
    refine so a8 q (O ak av az am) U p G G G G fun _ bc f ao=>(aR (cF (aK (aH ?_))))
    by_cases dw:Int.natAbs y/2^j%2=1
    ·refine aJ (pf g6 1 G (aP G G (bA cZ ((b_4.ext h).vN f) G) (mv 1 G (cl (vs:= [AT Af nf cf,v4 (j:Int)]) ao (FA (hy.ext ao).wi (by omega)) G (by kernel_rfl) fun _ _ io o ar=>?_))))
     obtain rfl:=io
     refine aN G G G true (fS (by omega)) (aA (bB G ?_))
     have jm:ln ((((x^(Int.natAbs y/2^(j+1))%z)*(x^(Int.natAbs y/2^(j+1))%z))%z)*(x%z))≤17179869184:=a6 (dR br bu) (by decide)
     have ni:ln (((((x^(Int.natAbs y/2^(j+1))%z)*(x^(Int.natAbs y/2^(j+1))%z))%z)*(x%z))%z)≤8589934592:=a6 (bO hm0) Lz
     refine cU bR 8 [6,7] [Is (J ak av az am),Is (J Y V aa Z),ZR w.heap.size ((((x^(Int.natAbs y/2^(j+1))%z)*(x^(Int.natAbs y/2^(j+1))%z))%z)*(x%z)),Is (J sb Ab nb cb),T2 (ZR w.heap.size (((((x^(Int.natAbs y/2^(j+1))%z)*(x^(Int.natAbs y/2^(j+1))%z))%z)*(x%z))%z)) (Is (v4 0)),T2 (ZR w.heap.size (((((x^(Int.natAbs y/2^(j+1))%z)*(x^(Int.natAbs y/2^(j+1))%z))%z)*(x%z))%z)) (Is (v4 0)),ZR w.heap.size (((((x^(Int.natAbs y/2^(j+1))%z)*(x^(Int.natAbs y/2^(j+1))%z))%z)*(x%z))%z),Is (v4 0)] [[],[],[0,1],[],[2,3],[4],[5],[5]] [[],[],[0,1],[],[0,1,2,3],[0,1,2,3,4],[0,1,2,3,4,5],[0,1,2,3,4,5],[0,1,2,3,4,5,6]] rfl
      (aF G G (aC G G ?_) (aF G G (aC G G ?_) (aF G G (aC G G ?_) (aF G G (aC G G ?_) (aF G G (aC G G ?_) (aF G G (aC G G ?_) (cV G G (cY G ?_) (cV G G (cY G ?_) cE)))))))) ?_
     ·exact fun _ jb=>aB (lo a8 (bc.ext (o.t jb)) (O ak av az am) G G G (aE G aD G))
     ·exact fun _ jh=>aB (lo a8 (((b_10.ext h).vN f).ext (o.t jh)) (O Y V aa Z) G G G (aE G aD G))
     ·intro _ bp
      have X:=ar.trans bp
      refine dk G G (dk G G (aB ?_))
      have nu:ln ((((x^(Int.natAbs y/2^(j+1))%z)*(x^(Int.natAbs y/2^(j+1))%z))%z)*(x%z))≤17179869184:=a6 (dR br bu) (by decide)
      refine cl (vs:= [J ak av az am,J Y V aa Z]) X (mL X.size ((au.updT q f).ext (o.t bp)).zi (au.le (aL br G)) (((zb.ext h).updT q f).ext (o.t bp)).zi (zb.le (aL bu G))) G (by kernel_rfl) fun _ _ ft iy aq=>?_
      obtain⟨_,_,_,_,rfl,fi⟩:=ft
      exact aE G iy ⟨_,_,_,_,rfl,fi⟩
     ·exact fun _ jw=>aB (lo a8 (((b_5.ext h).vN f).ext (o.t jw)) (O sb Ab nb cb) G G G (aE G aD G))
     ·intro _ jd
      have X:=ar.trans jd
      refine aO G G fun _ _ fp _ kk=>?_
      obtain⟨fz,ir,gk,el,rfl,bg⟩:=fp
      have bg:=bg.ext kk
      refine dk G G (aB ?_)
      have np:ln (((((x^(Int.natAbs y/2^(j+1))%z)*(x^(Int.natAbs y/2^(j+1))%z))%z)*(x%z))%z)≤8589934592:=a6 (bO hm0) Lz
      refine cl (vs:= [J fz ir gk el,J sb Ab nb cb]) X (oP X.size bg.zi (bg.le (aL jm G)) (hz.ext X) (aL lb G) hm0) G (by kernel_rfl) fun _ _ fb kv aq=>?_
      obtain⟨_,_,rfl,⟨_,_,_,_,rfl,ju⟩,rfl⟩:=fb
      exact aE G kv ⟨_,_,rfl,⟨_,_,_,_,rfl,ju⟩,rfl⟩
     ·intro _ _
      refine aO G G fun _ _ ja _ jl=>?_
      obtain⟨_,_,rfl,⟨_,_,_,_,rfl,bj⟩,rfl⟩:=ja
      have bj:=bj.ext jl
      refine aB (mv 1 G ?_)
      exact aE G aD ⟨_,_,rfl,⟨_,_,_,_,rfl,bj⟩,rfl⟩
     ·intro _ _
      refine aO G G fun _ _ jt _ fx=>?_
      obtain⟨_,_,rfl,⟨ki,ik,jk,je,rfl,bv⟩,rfl⟩:=jt
      have bv:=bv.ext fx
      refine aB ?_
      exact⟨J ki ik jk je,rfl,rfl,fun _=>by kernel_rfl,⟨_,_,_,_,rfl,bv⟩⟩
     ·intro _ _
      refine aO G G fun _ _ jj _ ga=>?_
      obtain⟨_,_,rfl,⟨_,_,_,_,rfl,cu⟩,rfl⟩:=jj
      have cu:=cu.ext ga
      refine aB ?_
      exact⟨v4 0,rfl,rfl,fun _=>by kernel_rfl,rfl⟩
     ·intro _ E
      have X:=ar.trans E
      refine dk G G (dk G G (aO G G fun _ _ kf _ ib=>?_))
      obtain⟨_,_,_,_,rfl,cv⟩:=kf
      have cv:=cv.ext ib
      refine dk G G (aO G G fun _ _ gx _ ia=>?_)
      obtain⟨_,_,rfl,⟨_,_,_,_,rfl,dn⟩,rfl⟩:=gx
      have dn:=dn.ext ia
      refine aO G G fun _ _ ko _ gb=>?_
      obtain⟨_,_,rfl,⟨_,_,_,_,rfl,da⟩,rfl⟩:=ko
      have da:=da.ext gb
      refine aO G G fun _ _ fj _ fy=>?_
      obtain⟨cz,dr,dt,cy,rfl,bo⟩:=fj
      have bo:=bo.ext fy
      refine dk G G (aB ?_)
      have bd:=(bc.ext (o.t E))
      refine so a8 bd (O cz dr dt cy) X p G G G G fun ij ee W aq=>(aR (cF (bM (aK (aJ (mv 1 G (aT G G G ((j:Int)-1) (kB G) (mv 1 G (aR (bX (⟨ij,j,(j:Int)-1,⟨cz,dr,dt,cy⟩⟩:a7×Nat×Int×ZC) ⟨aq,(by omega),rfl,((((b_3.ext h).vN f).ext (o.t E)).vN W),((((b_4.ext h).vN f).ext (o.t E)).vN W),((((b_5.ext h).vN f).ext (o.t E)).vN W),((((b_6.ext h).vN f).ext (o.t E)).vN W),ee,((((b_10.ext h).vN f).ext (o.t E)).vN W),((bo.updT bd W)).cast (M1 dw),((((zb.ext h).updT q f).ext (o.t E)).updT bd W)⟩ (show j<j+1 by omega) G ⟨rfl,rfl,rfl,rfl,rfl,rfl,rfl,rfl,Fo⟩))))))))))
    ·refine aJ (pf g6 1 G (aP G G (bA cZ ((b_4.ext h).vN f) G) (mv 1 G (cl (vs:= [AT Af nf cf,v4 (j:Int)]) ao (FA (hy.ext ao).wi (by omega)) G (by kernel_rfl) fun _ gg kt M ar=>?_))))
     obtain rfl:=kt
     refine aN G G G false (fT (by omega)) (aA (aV G (b8 (bM (aK (aJ (mv 1 G (aT G G G ((j:Int)-1) (kB G) (mv 1 G (aR (bX (⟨gg,j,(j:Int)-1,⟨ak,av,az,am⟩⟩:a7×Nat×Int×ZC) ⟨ar,(by omega),rfl,(((b_3.ext h).vN f).ext M),(((b_4.ext h).vN f).ext M),(((b_5.ext h).vN f).ext M),(((b_6.ext h).vN f).ext M),(bc.ext M),(((b_10.ext h).vN f).ext M),(((au.updT q f).ext M)).cast (M6 dw),(((zb.ext h).updT q f).ext M)⟩ (show j<j+1 by omega) G ⟨rfl,rfl,rfl,rfl,rfl,rfl,rfl,rfl,Fo⟩)))))))))))
  ·obtain rfl:k=0:=by omega
   refine aJ (mv 1 G (aN G G G false (oN) (aA (aV G (cR (cK (cN (cO (aK (sr (lo a8 b_8 (O kp.s kp.A kp.n kp.c) G G G ?_)))))))))))
   have ci:=b_6
   refine so a8 ci (O kp.s kp.A kp.n kp.c) bi il G G G G fun _ dx jq U=>(mv 1 G (aA (bD (bC [J kp.s kp.A kp.n kp.c,I0] G ⟨⟨_,rfl,aW a8 dx (O kp.s kp.A kp.n kp.c) G (bq G) rfl⟩,rfl,Fo⟩ ?_))))
   exact⟨_,rfl,⟨_,_,rfl,⟨_,_,_,_,rfl,((zp.updT ci jq)).cast (by rw [Nat.pow_zero,Nat.div_one])⟩,rfl⟩,U⟩
theorem QH {nb:Nat}(hb:b≤w.heap.size)(hx:Zi w sa Aa na ca x)(la:na≤8589934592)(hy:Zi w sf Af nf cf y)(lf:nf≤8589934592)(hz:Zi w sb Ab nb cb z)(lb:nb≤8589934592)(h0:0≤y)(hm0:z≠0):aQ aM 49 #[J sa Aa na ca,J sf Af nf cf,J sb Ab nb cb] w (Gv w (T2 (ZR b (x^Int.natAbs y%z)) (Is (v4 0)))):=(QG hx la hy lf hz lb h0 hm0).mono (Gv.imp (T2.imp (ZR.imp hb) Is.imp))
theorem M5:x%z=x^(2^(64*0))%z:=by rw [fX,Nat.pow_zero,Int.pow_succ,Int.pow_zero,Int.one_mul]
theorem M2:1%z=x^(e%2^(64*0))%z:=by rw [fX,Nat.pow_zero,Nat.mod_one,Int.pow_zero]
theorem CQ (h:e/2^t%2=1):((x^(e%2^t)%z)*(x^(2^t)%z))%z=x^(e%2^(t+1))%z:=by
 rw [←Int.mul_emod,←Int.pow_add,Nat.mod_pow_succ,h,eG]
theorem CR (h:¬e/2^t%2=1):x^(e%2^t)%z=x^(e%2^(t+1))%z:=by
 rw [Nat.mod_pow_succ,show e/2^t%2=0 by omega,fX,Nat.add_zero]
theorem tX:((x^(2^t)%z)*(x^(2^t)%z))%z=x^(2^(t+1))%z:=by
 rw [←Int.mul_emod,←Int.pow_add,dJ,Nat.mul_two]
theorem AP (hw:Wf ds)(hk:k<ds.length)(hj:j<64):nv ds/2^(64*k+j)%2=ds.getD k 0/2^j%2:=by
 have h:(64*k+j)/64=k:=by omega
 have o:(64*k+j)%64=j:=by omega
 have f:=GS hw (i:=64*k+j) G (by omega)
 rw [h,o] at f
 exact f
theorem MJ (hw:Wf ds)(hk:ds.length=k+1)(h0:ds.getD k 0/2^j=0):nv ds<2^(64*k+j):=by
 have f:=eE ds k (by omega)
 rw [List.take_of_length_le (by omega)] at f
 have q:nv (ds.take k)<WB^k:=jF hw _
 have p:ds.getD k 0<2^j:=by
  rcases Nat.div_eq_zero_iff.1 h0 with h | h
  ·have:=iO (n:=j) (show 0<2 by decide);omega
  ·exact h
 rw [dU,Nat.pow_mul,←kD,f]
 have o:WB^k*(ds.getD k 0+1)≤WB^k*2^j:=fG _ p
 rw [Nat.mul_add,eG] at o
 omega
theorem NZ (hw:Wf ds)(hk:ds.length=k+1)(hj:j≤64)(h0:ds.getD k 0/2^j=0):x^(nv ds%2^(64*k+j))%z=x^(nv ds%2^(64*(k+1)))%z:=by
 have f:=MJ hw hk h0
 have h:2^(64*k+j)≤2^(64*(k+1)):=i6 (by decide) (by omega)
 rw [fM f,fM (d4 f h)]
theorem T5 (hw:Wf ds)(hl:ds.length=K):nv ds%2^(64*K)=nv ds:=by
 have f:=gW hw
 rw [hl,kD,←Nat.pow_mul] at f
 exact fM f
theorem PA {nb:Nat}(hb:b≤w.heap.size)(hx:Zi w sa Aa na ca x)(la:na≤1073741824)(hy:Zi w sf Af nf cf y)(lf:nf≤1073741824)(hz:Zi w sb Ab nb cb z)(lb:nb≤1073741824)(h0:y<0):aQ aM 41 #[J sa Aa na ca,J sf Af nf cf,J sb Ab nb cb] w (Gv w (T2 (ZR b (0)) (Is (v4 3)))):=by
 refine Calls.mono (R:=Gv w (T2 (ZR w.heap.size (0)) (Is (v4 3)))) ?_ (Gv.imp (T2.imp (ZR.imp hb) Is.imp))
 have Lx:ln x≤1073741824:=a6 hx.ln la
 have Ly:ln y≤1073741824:=a6 hy.ln lf
 have Lz:ln z≤1073741824:=a6 hz.ln lb
 refine bP Tryz.func41 G (n:=86) G (bq G) (args:= [J sa Aa na ca,J sf Af nf cf,J sb Ab nb cb]) (bH [(0,J sa Aa na ca),(1,J sf Af nf cf),(2,J sb Ab nb cb)] ⟨rfl,rfl,rfl,Fo⟩ (sr (bx (O sa Aa na ca) (Ext.refl w) G G G fun _ _ H _ _ X=>(d5 (O sf Af nf cf) X H.lt G G G fun _ _ o _ _ _ I=>(d5 (O sb Ab nb cb) I o.lt G G G fun _ _ h _ _ V Y=>(bF [F0,S0] Y h.lt (fun _=>by kernel_rfl) G fun _ _ p q _ F D=>(mv 1 G (aA (aH (sr (lo a8 (o.ext (V.t F)) (O sf Af nf cf) G G G (cl (vs:= [J sf Af nf cf]) D (eN (hy.ext D) (aL lf G)) G (by kernel_rfl) fun _ L M U aa=>?_))))))))))))
 obtain rfl:=M
 refine aN G G G true (tO h0) (aA (bB G (sr (pu (v:= .agg #[F0,S0]) G ?_))))
 have f:=(p.ext U)
 refine so a8 f [F0,S0] aa q G G G G fun _ E W Z=>(mv 1 G (aA (bD (cT (bC [.agg #[F0,S0],v4 3] G ⟨⟨_,rfl,aW a8 E [F0,S0] G (bq G) rfl⟩,rfl,Fo⟩ ?_)))))
 exact⟨_,rfl,⟨_,_,rfl,⟨_,_,_,_,rfl,((Zr.zero (w:=L) (base:=w.heap.size)).updT f W)⟩,rfl⟩,Z⟩
theorem P8 {nb:Nat}(hb:b≤w.heap.size)(hx:Zi w sa Aa na ca x)(la:na≤1073741824)(hy:Zi w sf Af nf cf y)(lf:nf≤1073741824)(hz:Zi w sb Ab nb cb z)(lb:nb≤1073741824)(h0:0≤y)(hm0:z=0):aQ aM 41 #[J sa Aa na ca,J sf Af nf cf,J sb Ab nb cb] w (Gv w (T2 (ZR b (0)) (Is (v4 4)))):=by
 refine Calls.mono (R:=Gv w (T2 (ZR w.heap.size (0)) (Is (v4 4)))) ?_ (Gv.imp (T2.imp (ZR.imp hb) Is.imp))
 have Lx:ln x≤1073741824:=a6 hx.ln la
 have Ly:ln y≤1073741824:=a6 hy.ln lf
 have Lz:ln z≤1073741824:=a6 hz.ln lb
 refine bP Tryz.func41 G (n:=86) G (bq G) (args:= [J sa Aa na ca,J sf Af nf cf,J sb Ab nb cb]) (bH [(0,J sa Aa na ca),(1,J sf Af nf cf),(2,J sb Ab nb cb)] ⟨rfl,rfl,rfl,Fo⟩ (sr (bx (O sa Aa na ca) (Ext.refl w) G G G fun _ _ L _ _ Z=>(d5 (O sf Af nf cf) Z L.lt G G G fun _ _ p _ _ _ M=>(d5 (O sb Ab nb cb) M p.lt G G G fun _ _ f _ _ W aa=>(bF [F0,S0] aa f.lt (fun _=>by kernel_rfl) G fun _ _ D E _ o F=>(mv 1 G (aA (aH (sr (lo a8 (p.ext (W.t o)) (O sf Af nf cf) G G G (cl (vs:= [J sf Af nf cf]) F (eN (hy.ext F) (aL lf G)) G (by kernel_rfl) fun _ _ U q H=>?_))))))))))))
 obtain rfl:=U
 refine aN G G G false (pV h0) (aA (aV G (b8 (aK (aH (sr (lo a8 (f.ext (o.t q)) (O sb Ab nb cb) G G G (cl (vs:= [J sb Ab nb cb]) H (eN (hz.ext H) (aL lb G)) G (by kernel_rfl) fun _ ag X V ab=>?_))))))))
 obtain rfl:=X
 refine aN G G G true (iY hm0) (aA (bB G (sr (pu (v:= .agg #[F0,S0]) G ?_))))
 have h:=(D.ext (q.t V))
 refine so a8 h [F0,S0] ab E G G G G fun _ I Y ae=>(mv 1 G (aA (bD (cT (bC [.agg #[F0,S0],v4 4] G ⟨⟨_,rfl,aW a8 I [F0,S0] G (bq G) rfl⟩,rfl,Fo⟩ ?_)))))
 exact⟨_,rfl,⟨_,_,rfl,⟨_,_,_,_,rfl,((Zr.zero (w:=ag) (base:=w.heap.size)).updT h Y)⟩,rfl⟩,ae⟩
theorem P9 {nb:Nat}(hb:b≤w.heap.size)(hx:Zi w sa Aa na ca x)(la:na≤1073741824)(hy:Zi w sf Af nf cf y)(lf:nf≤1073741824)(hz:Zi w sb Ab nb cb z)(lb:nb≤1073741824)(h0:0≤y)(hm0:z≠0):aQ aM 41 #[J sa Aa na ca,J sf Af nf cf,J sb Ab nb cb] w (Gv w (T2 (ZR b (x^Int.natAbs y%z)) (Is (v4 0)))):=by
 refine Calls.mono (R:=Gv w (T2 (ZR w.heap.size (x^Int.natAbs y%z)) (Is (v4 0)))) ?_ (Gv.imp (T2.imp (ZR.imp hb) Is.imp))
 have Lx:ln x≤1073741824:=a6 hx.ln la
 have Ly:ln y≤1073741824:=a6 hy.ln lf
 have Lz:ln z≤1073741824:=a6 hz.ln lb
 obtain⟨ys,jt,yi⟩:∃ys,Rd w Af nf cf ys∧sg sf (nv ys)=y:=id hy
 have yj:nv ys=Int.natAbs y:=by rw [←yi,jU]
 refine bP Tryz.func41 G (n:=86) G (bq G) (args:= [J sa Aa na ca,J sf Af nf cf,J sb Ab nb cb]) (bH [(0,J sa Aa na ca),(1,J sf Af nf cf),(2,J sb Ab nb cb)] ⟨rfl,rfl,rfl,Fo⟩ (sr (bx (O sa Aa na ca) (Ext.refl w) G G G fun g1 _ kc _ _ E=>(d5 (O sf Af nf cf) E kc.lt G G G fun g6 _ ep _ _ e8 p=>(d5 (O sb Ab nb cb) p ep.lt G G G fun cj _ bh _ _ dm D=>(bF [F0,S0] D bh.lt (fun _=>by kernel_rfl) G fun br _ fb oe _ av F=>(mv 1 G (aA (aH (sr (lo a8 (ep.ext (dm.t av)) (O sf Af nf cf) G G G (cl (vs:= [J sf Af nf cf]) F (eN (hy.ext F) (aL lf G)) G (by kernel_rfl) fun _ _ yc ao aq=>?_))))))))))))
 obtain rfl:=yc
 refine aN G G G false (pV h0) (aA (aV G (b8 (aK (aH (sr (lo a8 (bh.ext (av.t ao)) (O sb Ab nb cb) G G G (cl (vs:= [J sb Ab nb cb]) aq (eN (hz.ext aq) (aL lb G)) G (by kernel_rfl) fun _ zd yg au ey=>?_))))))))
 obtain rfl:=yg
 refine aN G G G false (fE hm0) (aA (aV G (b8 (aK (aH ?_)))))
 have Bh:ln (1%z)≤1073741824:=a6 (bO hm0) Lz
 refine cU bR 7 [4,5] [ZR w.heap.size (1),Is (J sb Ab nb cb),T2 (ZR w.heap.size (1%z)) (Is (v4 0)),T2 (ZR w.heap.size (1%z)) (Is (v4 0)),ZR w.heap.size (1%z),Is (v4 0),PR zd.heap.size 24 [F0,S0]] [[],[],[0,1],[2],[3],[3],[]] [[],[],[0,1],[0,1,2],[0,1,2,3],[0,1,2,3],[],[0,1,2,3,4,6],[0,1,2,3,4,5,6,7]] rfl
  (aF G G (aC G G ?_) (aF G G (aC G G ?_) (aF G G (aC G G ?_) (aF G G (aC G G ?_) (cV G G (cY G ?_) (cV G G (cY G ?_) (aF G G (aC G G ?_) cE))))))) ?_
 ·intro yz yp
  have bf:=ey.trans yp
  refine aB (cl (vs:= []) bf (mM (w:=yz) bf.size) G (by kernel_rfl) fun _ _ zo yd ck=>?_)
  obtain⟨_,_,_,_,rfl,za⟩:=zo
  exact aE G yd ⟨_,_,_,_,rfl,za⟩
 ·exact fun _ zk=>aB (lo a8 (bh.ext (av.t (ao.t (au.t zk)))) (O sb Ab nb cb) G G G (aE G aD G))
 ·intro _ yl
  have bf:=ey.trans yl
  refine aO G G fun _ _ zj _ yv=>?_
  obtain⟨zy,zx,yh,Ag,rfl,ew⟩:=zj
  have ew:=ew.ext yv
  refine dk G G (aB ?_)
  have Bj:ln (1%z)≤1073741824:=a6 (bO hm0) Lz
  refine cl (vs:= [J zy zx yh Ag,J sb Ab nb cb]) bf (k8 bf.size ew.zi (ew.le (a6 (show ln 1≤1 by decide+kernel) (by decide))) (hz.ext bf) (aL lb G) hm0) G (by kernel_rfl) fun _ _ yx zq ck=>?_
  obtain⟨_,_,rfl,⟨_,_,_,_,rfl,Ah⟩,rfl⟩:=yx
  exact aE G zq ⟨_,_,rfl,⟨_,_,_,_,rfl,Ah⟩,rfl⟩
 ·intro _ _
  refine aO G G fun _ _ zz _ zu=>?_
  obtain⟨_,_,rfl,⟨_,_,_,_,rfl,jw⟩,rfl⟩:=zz
  have jw:=jw.ext zu
  refine aB (mv 1 G ?_)
  exact aE G aD ⟨_,_,rfl,⟨_,_,_,_,rfl,jw⟩,rfl⟩
 ·intro _ _
  refine aO G G fun _ _ yn _ zv=>?_
  obtain⟨_,_,rfl,⟨ym,yb,yt,ye,rfl,jv⟩,rfl⟩:=yn
  have jv:=jv.ext zv
  refine aB ?_
  exact⟨J ym yb yt ye,rfl,rfl,fun _=>by kernel_rfl,⟨_,_,_,_,rfl,jv⟩⟩
 ·intro _ _
  refine aO G G fun _ _ yq _ yw=>?_
  obtain⟨_,_,rfl,⟨_,_,_,_,rfl,tv⟩,rfl⟩:=yq
  have tv:=tv.ext yw
  refine aB ?_
  exact⟨v4 0,rfl,rfl,fun _=>by kernel_rfl,rfl⟩
 ·intro _ yk
  refine aB (dW G (z:= .agg #[F0,S0]) (vs:= [F0,S0]) (fun _=>by kernel_rfl) G fun _ _ nb=>?_)
  exact aE G nb.ext ⟨_,rfl,by rw [←nb.at_];exact yk.size,nb.bk⟩
 ·intro _ bg
  have bf:=ey.trans bg
  refine aO G G fun _ _ yr _ nw=>?_
  obtain⟨_,_,_,_,rfl,fk⟩:=yr
  have fk:=fk.ext nw
  refine dk G G (aO G G fun _ _ xp _ vu=>?_)
  obtain⟨_,_,rfl,⟨_,_,_,_,rfl,fp⟩,rfl⟩:=xp
  have fp:=fp.ext vu
  refine aO G G fun _ _ xr _ lm=>?_
  obtain⟨_,_,rfl,⟨_,_,_,_,rfl,fd⟩,rfl⟩:=xr
  have fd:=fd.ext lm
  refine aO G G fun _ _ xw _ kt=>?_
  obtain⟨ix,gb,ib,gf,rfl,ei⟩:=xw
  have ei:=ei.ext kt
  refine dk G G (aO G G fun _ _ xd _ ma=>?_)
  obtain⟨V,rfl,U,ba⟩:=xd
  have ba:=ba.ext ma
  have As:br<V:=d4 (fb.ext (ao.t au)).lt U
  have U:w.heap.size≤V:=a6 ey.size U
  refine aB (so a8 ba (O ix gb ib gf) bf U G G G G fun _ cu W ck=>(mv 1 G (aR (cF (aK (sr (lo a8 ((kc.ext (e8.t (dm.t (av.t (ao.t (au.t bg)))))).vN W) (O sa Aa na ca) G G G (lo a8 ((bh.ext (av.t (ao.t (au.t bg)))).vN W) (O sb Ab nb cb) G G G ?_))))))))
  have At:ln (x%z)≤1073741824:=a6 (bO hm0) Lz
  refine cl (vs:= [J sa Aa na ca,J sb Ab nb cb]) ck (k8 ck.size (hx.ext ck) (aL la G) (hz.ext ck) (aL lb G) hm0) G (by kernel_rfl) fun _ _ mg X zf=>?_
  obtain⟨_,_,rfl,⟨dg,dy,dh,ej,rfl,pp⟩,rfl⟩:=mg
  refine mv 1 G (pu (v:= J dg dy dh ej) G (pu (v:= v4 0) G (bF [F0,S0] zf (cu.ext X).lt (fun _=>by kernel_rfl) G fun ar _ bm ai _ ab pe=>(so a8 bm (O dg dy dh ej) pe ai G G G G fun _ jp ag gx=>(mv 1 G (aA (sr (pf g6 1 G (aP G G (bA cZ ((((ep.ext (dm.t (av.t (ao.t (au.t bg))))).vN W).ext (X.t ab)).vN ag) G) (cl (vs:= [AT Af nf cf]) gx (oE (jt.ext gx) (hln:=(aL lf G))) G (by kernel_rfl) fun _ pb si ae ot=>?_))))))))))
  obtain⟨K,rfl,yf,_,yo⟩:=si
  have ez:Rd w Af K cf (ys.take K):=jt.take yf (by have:=jt.rv.le;omega) (aS _)
  have ml:nv (ys.take K)=Int.natAbs y:=by rw [mG,yo,←mG,yj]
  generalize ys.take K=ds at ez ml
  have dz:=ez.wf
  have zt:=ez.len
  refine mv 1 G (aA (aH (sr (mv 1 G (aA (bG ?_))))))
  refine cQ (T:=a7×Nat×ZC×ZC×Int)
   (fun⟨wr,k,kp,ks,sv⟩=> [(3,no g1 0),(4,no g6 0),(5,no cj 0),(6,no br 0),(7,v4 0),(8,no V 0),(10,no ar 0),(12,AT Af K cf),(13,v4 k)])
   (fun⟨wr,k,kp,ks,sv⟩=>wr)
   (fun⟨wr,k,kp,ks,sv⟩=>(Ext w wr)∧(k≤K)∧(k<K→sv=x^(2^(64*k))%z)∧(ln sv≤1073741824)∧(Bk wr g1 24 (O sa Aa na ca))∧(Bk wr g6 24 (O sf Af nf cf))∧(Bk wr cj 24 (O sb Ab nb cb))∧(Bk wr br 24 [F0,S0])∧(Bk wr V 24 (O kp.s kp.A kp.n kp.c))∧(Bk wr ar 24 (O ks.s ks.A ks.n ks.c))∧(Zr wr w.heap.size kp.s kp.A kp.n kp.c (x^(nv ds%2^(64*k))%z))∧(Zr wr w.heap.size ks.s ks.A ks.n ks.c sv))
   (fun⟨wr,k,kp,ks,sv⟩=>K-k)
   (⟨pb,0,⟨ix,gb,ib,gf⟩,⟨dg,dy,dh,ej⟩,x%z⟩:a7×Nat×ZC×ZC×Int) ⟨ot,bJ _,(fun _=>M5),(a6 (bO hm0) Lz),(((((kc.ext (e8.t (dm.t (av.t (ao.t (au.t bg)))))).vN W).ext (X.t ab)).vN ag).ext ae),(((((ep.ext (dm.t (av.t (ao.t (au.t bg))))).vN W).ext (X.t ab)).vN ag).ext ae),(((((bh.ext (av.t (ao.t (au.t bg)))).vN W).ext (X.t ab)).vN ag).ext ae),(((((fb.ext (ao.t (au.t bg))).vN W).ext (X.t ab)).vN ag).ext ae),(((cu.ext (X.t ab)).vN ag).ext ae),(jp.ext ae),(((((ei.updT ba W).ext (X.t ab)).updT bm ag).ext ae)).cast M2,(((pp.ext ab).updT bm ag).ext ae)⟩ G ⟨rfl,rfl,rfl,rfl,rfl,rfl,rfl,rfl,rfl,Fo⟩ ?_
  rintro⟨wr,k,kp,ks,sv⟩ ⟨E,_,Ai,_,b_3,b_4,b_5,b_6,b_8,b_10,zp,zs⟩
  refine cP [(3,no g1 0),(4,no g6 0),(5,no cj 0),(6,no br 0),(7,v4 0),(8,no V 0),(10,no ar 0),(12,AT Af K cf),(13,v4 k)] wr G ⟨rfl,rfl,rfl,rfl,rfl,rfl,rfl,rfl,rfl,Fo⟩ (aH (aH ?_))
  by_cases Ac:k<K
  ·refine aJ (mv 2 G (pu (v:= v4 K) G (aN G G G true (cG (a:=k) (b:=K) G G) (aA (bB G (b8 (aK (aH (bG (aH ?_))))))))))
   have ze:ds.getD k 0≤18446744073709551615:=by have:=p8 dz k;rw [cI] at this;omega
   refine aJ (mv 2 G ?_)
   obtain⟨mz,jx,ju,_⟩:=((ez.ext E)).at (i:=k) (by omega)
   refine bI G G G bT bL k G mz jx (aP G G (dC d6 ju) (mv 1 G (aA (sr (mv 1 G (aA (bG ?_)))))))
   refine cQ (T:=a7×Nat×Nat×ZC×ZC)
    (fun⟨wi,j,wv,o,f⟩=> [(3,no g1 0),(4,no g6 0),(5,no cj 0),(6,no br 0),(7,v4 0),(8,no V 0),(10,no ar 0),(12,AT Af K cf),(13,v4 k),(14,AI wv),(15,v4 j)])
    (fun⟨wi,j,wv,o,f⟩=>wi)
    (fun⟨wi,j,wv,o,f⟩=>(Ext w wi)∧(j≤64)∧(wv=ds.getD k 0/2^j)∧(Bk wi g1 24 (O sa Aa na ca))∧(Bk wi g6 24 (O sf Af nf cf))∧(Bk wi cj 24 (O sb Ab nb cb))∧(Bk wi br 24 [F0,S0])∧(Bk wi V 24 (O o.s o.A o.n o.c))∧(Bk wi ar 24 (O f.s f.A f.n f.c))∧(Zr wi w.heap.size o.s o.A o.n o.c (x^(nv ds%2^(64*k+j))%z))∧(Zr wi w.heap.size f.s f.A f.n f.c (x^(2^(64*k+j))%z)))
    (fun⟨wi,j,wv,o,f⟩=>64-j)
    (⟨wr,0,ds.getD k 0,⟨kp.s,kp.A,kp.n,kp.c⟩,⟨ks.s,ks.A,ks.n,ks.c⟩⟩:a7×Nat×Nat×ZC×ZC) ⟨E,bJ _,(by rw [Nat.pow_zero,Nat.div_one]),b_3,b_4,b_5,b_6,b_8,b_10,(zp).cast rfl,(zs).cast (Ai Ac)⟩ G ⟨rfl,rfl,rfl,rfl,rfl,rfl,rfl,rfl,rfl,rfl,rfl,Fo⟩ ?_
   rintro⟨wi,j,wv,o,f⟩ ⟨E,hj,bd,b_3,b_4,b_5,b_6,b_8,b_10,bc,q⟩
   refine cP [(3,no g1 0),(4,no g6 0),(5,no cj 0),(6,no br 0),(7,v4 0),(8,no V 0),(10,no ar 0),(12,AT Af K cf),(13,v4 k),(14,AI wv),(15,v4 j)] wi G ⟨rfl,rfl,rfl,rfl,rfl,rfl,rfl,rfl,rfl,rfl,rfl,Fo⟩ ?_
   have Bg:wv≤18446744073709551615:=by rw [bd];exact a6 (i8 _ _) ze
   refine aH (aH ?_)
   by_cases gy:j<64
   ·by_cases Bi:wv>0
    ·refine aJ (mv 1 G (aN G G G true (cG (a:=j) (b:=64) G G) (mv 2 G (aN G G G true (nT (a:=wv) (b:=0) G G) (mv 6 G (pu (v:= By) G (pu (v:= By) G (aA (bB G (b8 (aK (aH (bG ?_)))))))))))))
     refine aH (aH ?_)
     have dn:nv ds/2^(64*k+j)%2=wv%2:=by rw [bd];exact AP dz (by omega) gy
     by_cases bi:wv%2=1
     ·refine aJ (mv 1 G (aT G G G ((wv%2:Nat):Int) (jL (a:=wv) (b:=2) G G) (aN G G G true (mR (a:=wv%2) (b:=1) G G) (aA (bB G ?_)))))
      have kw:ln ((x^(nv ds%2^(64*k+j))%z)*(x^(2^(64*k+j))%z))≤2147483648:=a6 (dR (a6 (bO hm0) Lz) (a6 (bO hm0) Lz)) (by decide)
      have Ay:ln (((x^(nv ds%2^(64*k+j))%z)*(x^(2^(64*k+j))%z))%z)≤1073741824:=a6 (bO hm0) Lz
      refine cU bR 8 [6,7] [Is (J o.s o.A o.n o.c),Is (J f.s f.A f.n f.c),ZR w.heap.size ((x^(nv ds%2^(64*k+j))%z)*(x^(2^(64*k+j))%z)),Is (J sb Ab nb cb),T2 (ZR w.heap.size (((x^(nv ds%2^(64*k+j))%z)*(x^(2^(64*k+j))%z))%z)) (Is (v4 0)),T2 (ZR w.heap.size (((x^(nv ds%2^(64*k+j))%z)*(x^(2^(64*k+j))%z))%z)) (Is (v4 0)),ZR w.heap.size (((x^(nv ds%2^(64*k+j))%z)*(x^(2^(64*k+j))%z))%z),Is (v4 0)] [[],[],[0,1],[],[2,3],[4],[5],[5]] [[],[],[0,1],[],[0,1,2,3],[0,1,2,3,4],[0,1,2,3,4,5],[0,1,2,3,4,5],[0,1,2,3,4,5,6]] rfl
       (aF G G (aC G G ?_) (aF G G (aC G G ?_) (aF G G (aC G G ?_) (aF G G (aC G G ?_) (aF G G (aC G G ?_) (aF G G (aC G G ?_) (cV G G (cY G ?_) (cV G G (cY G ?_) cE)))))))) ?_
      ·exact fun _ ow=>aB (lo a8 (b_8.ext ow) (O o.s o.A o.n o.c) G G G (aE G aD G))
      ·exact fun _ um=>aB (lo a8 (b_10.ext um) (O f.s f.A f.n f.c) G G G (aE G aD G))
      ·intro _ eg
       have p:=E.trans eg
       refine dk G G (dk G G (aB ?_))
       have Ap:ln ((x^(nv ds%2^(64*k+j))%z)*(x^(2^(64*k+j))%z))≤2147483648:=a6 (dR (a6 (bO hm0) Lz) (a6 (bO hm0) Lz)) (by decide)
       refine cl (vs:= [J o.s o.A o.n o.c,J f.s f.A f.n f.c]) p (k9 p.size (bc.ext eg).zi (bc.le (a6 (a6 (bO hm0) Lz) (by decide))) (q.ext eg).zi (q.le (a6 (a6 (bO hm0) Lz) (by decide)))) G (by kernel_rfl) fun _ _ pq qh D=>?_
       obtain⟨_,_,_,_,rfl,ov⟩:=pq
       exact aE G qh ⟨_,_,_,_,rfl,ov⟩
      ·exact fun _ kk=>aB (lo a8 (b_5.ext kk) (O sb Ab nb cb) G G G (aE G aD G))
      ·intro _ ur
       have p:=E.trans ur
       refine aO G G fun _ _ td _ pm=>?_
       obtain⟨ko,uj,vd,oo,rfl,bu⟩:=td
       have bu:=bu.ext pm
       refine dk G G (aB ?_)
       have Aj:ln (((x^(nv ds%2^(64*k+j))%z)*(x^(2^(64*k+j))%z))%z)≤1073741824:=a6 (bO hm0) Lz
       refine cl (vs:= [J ko uj vd oo,J sb Ab nb cb]) p (k8 p.size bu.zi (bu.le (aL kw G)) (hz.ext p) (aL lb G) hm0) G (by kernel_rfl) fun _ _ tr ve D=>?_
       obtain⟨_,_,rfl,⟨_,_,_,_,rfl,tb⟩,rfl⟩:=tr
       exact aE G ve ⟨_,_,rfl,⟨_,_,_,_,rfl,tb⟩,rfl⟩
      ·intro _ _
       refine aO G G fun _ _ qd _ oy=>?_
       obtain⟨_,_,rfl,⟨_,_,_,_,rfl,du⟩,rfl⟩:=qd
       have du:=du.ext oy
       refine aB (mv 1 G ?_)
       exact aE G aD ⟨_,_,rfl,⟨_,_,_,_,rfl,du⟩,rfl⟩
      ·intro _ _
       refine aO G G fun _ _ wp _ sz=>?_
       obtain⟨_,_,rfl,⟨xl,nz,te,rm,rfl,df⟩,rfl⟩:=wp
       have df:=df.ext sz
       refine aB ?_
       exact⟨J xl nz te rm,rfl,rfl,fun _=>by kernel_rfl,⟨_,_,_,_,rfl,df⟩⟩
      ·intro _ _
       refine aO G G fun _ _ lj _ uz=>?_
       obtain⟨_,_,rfl,⟨_,_,_,_,rfl,ji⟩,rfl⟩:=lj
       have ji:=ji.ext uz
       refine aB ?_
       exact⟨v4 0,rfl,rfl,fun _=>by kernel_rfl,rfl⟩
      ·intro _ I
       have p:=E.trans I
       refine dk G G (dk G G (aO G G fun _ _ tk _ vh=>?_))
       obtain⟨_,_,_,_,rfl,fa⟩:=tk
       have fa:=fa.ext vh
       refine dk G G (aO G G fun _ _ xt _ px=>?_)
       obtain⟨_,_,rfl,⟨_,_,_,_,rfl,fo⟩,rfl⟩:=xt
       have fo:=fo.ext px
       refine aO G G fun _ _ pl _ uv=>?_
       obtain⟨_,_,rfl,⟨_,_,_,_,rfl,ge⟩,rfl⟩:=pl
       have ge:=ge.ext uv
       refine aO G G fun _ _ xx _ xq=>?_
       obtain⟨ie,jf,fm,fj,rfl,cy⟩:=xx
       have cy:=cy.ext xq
       refine dk G G (aB ?_)
       have az:=(b_8.ext I)
       refine so a8 az (O ie jf fm fj) p U G G G G fun _ jl L D=>(aR (cF (aK (sr (mv 1 G (aT G G G ((wv/2:Nat):Int) (j6 (a:=wv) (b:=2) G G) (mv 1 G (aA ?_))))))))
       have xm:ln ((x^(2^(64*k+j))%z)*(x^(2^(64*k+j))%z))≤2147483648:=a6 (dR (a6 (bO hm0) Lz) (a6 (bO hm0) Lz)) (by decide)
       have Bf:ln (((x^(2^(64*k+j))%z)*(x^(2^(64*k+j))%z))%z)≤1073741824:=a6 (bO hm0) Lz
       refine cU bR 8 [6,7] [Is (J f.s f.A f.n f.c),Is (J f.s f.A f.n f.c),ZR w.heap.size ((x^(2^(64*k+j))%z)*(x^(2^(64*k+j))%z)),Is (J sb Ab nb cb),T2 (ZR w.heap.size (((x^(2^(64*k+j))%z)*(x^(2^(64*k+j))%z))%z)) (Is (v4 0)),T2 (ZR w.heap.size (((x^(2^(64*k+j))%z)*(x^(2^(64*k+j))%z))%z)) (Is (v4 0)),ZR w.heap.size (((x^(2^(64*k+j))%z)*(x^(2^(64*k+j))%z))%z),Is (v4 0)] [[],[],[0,1],[],[2,3],[4],[5],[5]] [[],[],[0,1],[],[0,1,2,3],[0,1,2,3,4],[0,1,2,3,4,5],[0,1,2,3,4,5],[0,1,2,3,4,5,6]] rfl
        (aF G G (aC G G ?_) (aF G G (aC G G ?_) (aF G G (aC G G ?_) (aF G G (aC G G ?_) (aF G G (aC G G ?_) (aF G G (aC G G ?_) (cV G G (cY G ?_) (cV G G (cY G ?_) cE)))))))) ?_
       ·exact fun _ wh=>aB (lo a8 (((b_10.ext I).vN L).ext wh) (O f.s f.A f.n f.c) G G G (aE G aD G))
       ·exact fun _ vi=>aB (lo a8 (((b_10.ext I).vN L).ext vi) (O f.s f.A f.n f.c) G G G (aE G aD G))
       ·intro _ de
        have F:=D.trans de
        refine dk G G (dk G G (aB ?_))
        have Bc:ln ((x^(2^(64*k+j))%z)*(x^(2^(64*k+j))%z))≤2147483648:=a6 (dR (a6 (bO hm0) Lz) (a6 (bO hm0) Lz)) (by decide)
        refine cl (vs:= [J f.s f.A f.n f.c,J f.s f.A f.n f.c]) F (k9 F.size (((q.ext I).updT az L).ext de).zi (q.le (a6 (a6 (bO hm0) Lz) (by decide))) (((q.ext I).updT az L).ext de).zi (q.le (a6 (a6 (bO hm0) Lz) (by decide)))) G (by kernel_rfl) fun _ _ pg rc aq=>?_
        obtain⟨_,_,_,_,rfl,vl⟩:=pg
        exact aE G rc ⟨_,_,_,_,rfl,vl⟩
       ·exact fun _ lu=>aB (lo a8 (((b_5.ext I).vN L).ext lu) (O sb Ab nb cb) G G G (aE G aD G))
       ·intro _ pz
        have F:=D.trans pz
        refine aO G G fun _ _ ss _ wu=>?_
        obtain⟨nk,ux,uf,mr,rfl,ci⟩:=ss
        have ci:=ci.ext wu
        refine dk G G (aB ?_)
        have Az:ln (((x^(2^(64*k+j))%z)*(x^(2^(64*k+j))%z))%z)≤1073741824:=a6 (bO hm0) Lz
        refine cl (vs:= [J nk ux uf mr,J sb Ab nb cb]) F (k8 F.size ci.zi (ci.le (aL xm G)) (hz.ext F) (aL lb G) hm0) G (by kernel_rfl) fun _ _ ti xy aq=>?_
        obtain⟨_,_,rfl,⟨_,_,_,_,rfl,qr⟩,rfl⟩:=ti
        exact aE G xy ⟨_,_,rfl,⟨_,_,_,_,rfl,qr⟩,rfl⟩
       ·intro _ _
        refine aO G G fun _ _ ky _ qp=>?_
        obtain⟨_,_,rfl,⟨_,_,_,_,rfl,dl⟩,rfl⟩:=ky
        have dl:=dl.ext qp
        refine aB (mv 1 G ?_)
        exact aE G aD ⟨_,_,rfl,⟨_,_,_,_,rfl,dl⟩,rfl⟩
       ·intro _ _
        refine aO G G fun _ _ wz _ rt=>?_
        obtain⟨_,_,rfl,⟨oi,ua,tn,ui,rfl,co⟩,rfl⟩:=wz
        have co:=co.ext rt
        refine aB ?_
        exact⟨J oi ua tn ui,rfl,rfl,fun _=>by kernel_rfl,⟨_,_,_,_,rfl,co⟩⟩
       ·intro _ _
        refine aO G G fun _ _ qe _ rp=>?_
        obtain⟨_,_,rfl,⟨_,_,_,_,rfl,il⟩,rfl⟩:=qe
        have il:=il.ext rp
        refine aB ?_
        exact⟨v4 0,rfl,rfl,fun _=>by kernel_rfl,rfl⟩
       ·intro _ Y
        have F:=D.trans Y
        refine dk G G (dk G G (aO G G fun _ _ on _ vm=>?_))
        obtain⟨_,_,_,_,rfl,iq⟩:=on
        have iq:=iq.ext vm
        refine dk G G (aO G G fun _ _ nu _ ou=>?_)
        obtain⟨_,_,rfl,⟨_,_,_,_,rfl,jc⟩,rfl⟩:=nu
        have jc:=jc.ext ou
        refine aO G G fun _ _ od _ pk=>?_
        obtain⟨_,_,rfl,⟨_,_,_,_,rfl,iu⟩,rfl⟩:=od
        have iu:=iu.ext pk
        refine aO G G fun _ _ xk _ ph=>?_
        obtain⟨jd,fq,fw,ik,rfl,cx⟩:=xk
        have cx:=cx.ext ph
        refine dk G G (aB ?_)
        have bo:=(((b_10.ext I).vN L).ext Y)
        refine so a8 bo (O jd fq fw ik) F ai G G G G fun kq jq an aq=>(aR (cF (bM (aK (aJ (mv 1 G (aT G G G ((j+1:Nat):Int) (bK (a:=j) (b:=1) G G) (mv 1 G (aR (bX (⟨kq,j+1,wv/2,⟨ie,jf,fm,fj⟩,⟨jd,fq,fw,ik⟩⟩:a7×Nat×Nat×ZC×ZC) ⟨aq,(by omega),(by rw [bd,Nat.div_div_eq_div_mul,←dJ]),((((b_3.ext I).vN L).ext Y).vN an),((((b_4.ext I).vN L).ext Y).vN an),((((b_5.ext I).vN L).ext Y).vN an),((((b_6.ext I).vN L).ext Y).vN an),((jl.ext Y).vN an),jq,((((cy.updT az L).ext Y).updT bo an)).cast (CQ (by rw [dn];exact bi)),((cx.updT bo an)).cast tX⟩ (show 64-(j+1)<64-j by omega) G ⟨rfl,rfl,rfl,rfl,rfl,rfl,rfl,rfl,rfl,rfl,rfl,Fo⟩))))))))))
     ·refine aJ (mv 1 G (aT G G G ((wv%2:Nat):Int) (jL (a:=wv) (b:=2) G G) (aN G G G false (nV (a:=wv%2) (b:=1) G G) (aA (aV G (b8 (aK (sr (mv 1 G (aT G G G ((wv/2:Nat):Int) (j6 (a:=wv) (b:=2) G G) (mv 1 G (aA ?_))))))))))))
      have np:ln ((x^(2^(64*k+j))%z)*(x^(2^(64*k+j))%z))≤2147483648:=a6 (dR (a6 (bO hm0) Lz) (a6 (bO hm0) Lz)) (by decide)
      have Bb:ln (((x^(2^(64*k+j))%z)*(x^(2^(64*k+j))%z))%z)≤1073741824:=a6 (bO hm0) Lz
      refine cU bR 8 [6,7] [Is (J f.s f.A f.n f.c),Is (J f.s f.A f.n f.c),ZR w.heap.size ((x^(2^(64*k+j))%z)*(x^(2^(64*k+j))%z)),Is (J sb Ab nb cb),T2 (ZR w.heap.size (((x^(2^(64*k+j))%z)*(x^(2^(64*k+j))%z))%z)) (Is (v4 0)),T2 (ZR w.heap.size (((x^(2^(64*k+j))%z)*(x^(2^(64*k+j))%z))%z)) (Is (v4 0)),ZR w.heap.size (((x^(2^(64*k+j))%z)*(x^(2^(64*k+j))%z))%z),Is (v4 0)] [[],[],[0,1],[],[2,3],[4],[5],[5]] [[],[],[0,1],[],[0,1,2,3],[0,1,2,3,4],[0,1,2,3,4,5],[0,1,2,3,4,5],[0,1,2,3,4,5,6]] rfl
       (aF G G (aC G G ?_) (aF G G (aC G G ?_) (aF G G (aC G G ?_) (aF G G (aC G G ?_) (aF G G (aC G G ?_) (aF G G (aC G G ?_) (cV G G (cY G ?_) (cV G G (cY G ?_) cE)))))))) ?_
      ·exact fun _ xh=>aB (lo a8 (b_10.ext xh) (O f.s f.A f.n f.c) G G G (aE G aD G))
      ·exact fun _ mb=>aB (lo a8 (b_10.ext mb) (O f.s f.A f.n f.c) G G G (aE G aD G))
      ·intro _ eh
       have p:=E.trans eh
       refine dk G G (dk G G (aB ?_))
       have Ax:ln ((x^(2^(64*k+j))%z)*(x^(2^(64*k+j))%z))≤2147483648:=a6 (dR (a6 (bO hm0) Lz) (a6 (bO hm0) Lz)) (by decide)
       refine cl (vs:= [J f.s f.A f.n f.c,J f.s f.A f.n f.c]) p (k9 p.size (q.ext eh).zi (q.le (a6 (a6 (bO hm0) Lz) (by decide))) (q.ext eh).zi (q.le (a6 (a6 (bO hm0) Lz) (by decide)))) G (by kernel_rfl) fun _ _ qk kv D=>?_
       obtain⟨_,_,_,_,rfl,tc⟩:=qk
       exact aE G kv ⟨_,_,_,_,rfl,tc⟩
      ·exact fun _ qm=>aB (lo a8 (b_5.ext qm) (O sb Ab nb cb) G G G (aE G aD G))
      ·intro _ qv
       have p:=E.trans qv
       refine aO G G fun _ _ xo _ ww=>?_
       obtain⟨qg,mm,up,ki,rfl,bz⟩:=xo
       have bz:=bz.ext ww
       refine dk G G (aB ?_)
       have Ao:ln (((x^(2^(64*k+j))%z)*(x^(2^(64*k+j))%z))%z)≤1073741824:=a6 (bO hm0) Lz
       refine cl (vs:= [J qg mm up ki,J sb Ab nb cb]) p (k8 p.size bz.zi (bz.le (aL np G)) (hz.ext p) (aL lb G) hm0) G (by kernel_rfl) fun _ _ sn mw D=>?_
       obtain⟨_,_,rfl,⟨_,_,_,_,rfl,sm⟩,rfl⟩:=sn
       exact aE G mw ⟨_,_,rfl,⟨_,_,_,_,rfl,sm⟩,rfl⟩
      ·intro _ _
       refine aO G G fun _ _ xa _ ya=>?_
       obtain⟨_,_,rfl,⟨_,_,_,_,rfl,dr⟩,rfl⟩:=xa
       have dr:=dr.ext ya
       refine aB (mv 1 G ?_)
       exact aE G aD ⟨_,_,rfl,⟨_,_,_,_,rfl,dr⟩,rfl⟩
      ·intro _ _
       refine aO G G fun _ _ nj _ vv=>?_
       obtain⟨_,_,rfl,⟨vg,ll,om,sq,rfl,dx⟩,rfl⟩:=nj
       have dx:=dx.ext vv
       refine aB ?_
       exact⟨J vg ll om sq,rfl,rfl,fun _=>by kernel_rfl,⟨_,_,_,_,rfl,dx⟩⟩
      ·intro _ _
       refine aO G G fun _ _ lh _ xg=>?_
       obtain⟨_,_,rfl,⟨_,_,_,_,rfl,jg⟩,rfl⟩:=lh
       have jg:=jg.ext xg
       refine aB ?_
       exact⟨v4 0,rfl,rfl,fun _=>by kernel_rfl,rfl⟩
      ·intro _ aa
       have p:=E.trans aa
       refine dk G G (dk G G (aO G G fun _ _ xv _ uy=>?_))
       obtain⟨_,_,_,_,rfl,fc⟩:=xv
       have fc:=fc.ext uy
       refine dk G G (aO G G fun _ _ vj _ tf=>?_)
       obtain⟨_,_,rfl,⟨_,_,_,_,rfl,ir⟩,rfl⟩:=vj
       have ir:=ir.ext tf
       refine aO G G fun _ _ rk _ uk=>?_
       obtain⟨_,_,rfl,⟨_,_,_,_,rfl,gj⟩,rfl⟩:=rk
       have gj:=gj.ext uk
       refine aO G G fun _ _ mj _ qi=>?_
       obtain⟨gk,ig,fv,ft,rfl,dc⟩:=mj
       have dc:=dc.ext qi
       refine dk G G (aB ?_)
       have bt:=(b_10.ext aa)
       refine so a8 bt (O gk ig fv ft) p ai G G G G fun rq jr ak D=>(aR (cF (bM (aK (aJ (mv 1 G (aT G G G ((j+1:Nat):Int) (bK (a:=j) (b:=1) G G) (mv 1 G (aR (bX (⟨rq,j+1,wv/2,⟨o.s,o.A,o.n,o.c⟩,⟨gk,ig,fv,ft⟩⟩:a7×Nat×Nat×ZC×ZC) ⟨D,(by omega),(by rw [bd,Nat.div_div_eq_div_mul,←dJ]),((b_3.ext aa).vN ak),((b_4.ext aa).vN ak),((b_5.ext aa).vN ak),((b_6.ext aa).vN ak),((b_8.ext aa).vN ak),jr,(((bc.ext aa).updT bt ak)).cast (CR (by rw [dn];exact bi)),((dc.updT bt ak)).cast tX⟩ (show 64-(j+1)<64-j by omega) G ⟨rfl,rfl,rfl,rfl,rfl,rfl,rfl,rfl,rfl,rfl,rfl,Fo⟩))))))))))
    ·by_cases yu:k+1<K
     ·refine aJ (mv 1 G (aN G G G true (cG (a:=j) (b:=64) G G) (mv 2 G (aN G G G false (nU (a:=wv) (b:=0) G G) (mv 2 G (aT G G G ((k+1:Nat):Int) (bK (a:=k) (b:=1) G G) (mv 1 G (pu (v:= v4 K) G (aN G G G true (cG (a:=k+1) (b:=K) G G) (pu (v:= By) G (pu (v:= By) G (aA (bB G ?_)))))))))))))
      refine b8 (aK (aH (bG (aH (aH ?_)))))
      have dn:nv ds/2^(64*k+j)%2=wv%2:=by rw [bd];exact AP dz (by omega) gy
      by_cases bi:wv%2=1
      ·refine aJ (mv 1 G (aT G G G ((wv%2:Nat):Int) (jL (a:=wv) (b:=2) G G) (aN G G G true (mR (a:=wv%2) (b:=1) G G) (aA (bB G ?_)))))
       have ng:ln ((x^(nv ds%2^(64*k+j))%z)*(x^(2^(64*k+j))%z))≤2147483648:=a6 (dR (a6 (bO hm0) Lz) (a6 (bO hm0) Lz)) (by decide)
       have Be:ln (((x^(nv ds%2^(64*k+j))%z)*(x^(2^(64*k+j))%z))%z)≤1073741824:=a6 (bO hm0) Lz
       refine cU bR 8 [6,7] [Is (J o.s o.A o.n o.c),Is (J f.s f.A f.n f.c),ZR w.heap.size ((x^(nv ds%2^(64*k+j))%z)*(x^(2^(64*k+j))%z)),Is (J sb Ab nb cb),T2 (ZR w.heap.size (((x^(nv ds%2^(64*k+j))%z)*(x^(2^(64*k+j))%z))%z)) (Is (v4 0)),T2 (ZR w.heap.size (((x^(nv ds%2^(64*k+j))%z)*(x^(2^(64*k+j))%z))%z)) (Is (v4 0)),ZR w.heap.size (((x^(nv ds%2^(64*k+j))%z)*(x^(2^(64*k+j))%z))%z),Is (v4 0)] [[],[],[0,1],[],[2,3],[4],[5],[5]] [[],[],[0,1],[],[0,1,2,3],[0,1,2,3,4],[0,1,2,3,4,5],[0,1,2,3,4,5],[0,1,2,3,4,5,6]] rfl
        (aF G G (aC G G ?_) (aF G G (aC G G ?_) (aF G G (aC G G ?_) (aF G G (aC G G ?_) (aF G G (aC G G ?_) (aF G G (aC G G ?_) (cV G G (cY G ?_) (cV G G (cY G ?_) cE)))))))) ?_
       ·exact fun _ ni=>aB (lo a8 (b_8.ext ni) (O o.s o.A o.n o.c) G G G (aE G aD G))
       ·exact fun _ ut=>aB (lo a8 (b_10.ext ut) (O f.s f.A f.n f.c) G G G (aE G aD G))
       ·intro _ cz
        have p:=E.trans cz
        refine dk G G (dk G G (aB ?_))
        have Bd:ln ((x^(nv ds%2^(64*k+j))%z)*(x^(2^(64*k+j))%z))≤2147483648:=a6 (dR (a6 (bO hm0) Lz) (a6 (bO hm0) Lz)) (by decide)
        refine cl (vs:= [J o.s o.A o.n o.c,J f.s f.A f.n f.c]) p (k9 p.size (bc.ext cz).zi (bc.le (a6 (a6 (bO hm0) Lz) (by decide))) (q.ext cz).zi (q.le (a6 (a6 (bO hm0) Lz) (by decide)))) G (by kernel_rfl) fun _ _ sx mf D=>?_
        obtain⟨_,_,_,_,rfl,nx⟩:=sx
        exact aE G mf ⟨_,_,_,_,rfl,nx⟩
       ·exact fun _ pn=>aB (lo a8 (b_5.ext pn) (O sb Ab nb cb) G G G (aE G aD G))
       ·intro _ my
        have p:=E.trans my
        refine aO G G fun _ _ tw _ ul=>?_
        obtain⟨nl,kx,md,qj,rfl,ch⟩:=tw
        have ch:=ch.ext ul
        refine dk G G (aB ?_)
        have Am:ln (((x^(nv ds%2^(64*k+j))%z)*(x^(2^(64*k+j))%z))%z)≤1073741824:=a6 (bO hm0) Lz
        refine cl (vs:= [J nl kx md qj,J sb Ab nb cb]) p (k8 p.size ch.zi (ch.le (aL ng G)) (hz.ext p) (aL lb G) hm0) G (by kernel_rfl) fun _ _ ro wy D=>?_
        obtain⟨_,_,rfl,⟨_,_,_,_,rfl,ny⟩,rfl⟩:=ro
        exact aE G wy ⟨_,_,rfl,⟨_,_,_,_,rfl,ny⟩,rfl⟩
       ·intro _ _
        refine aO G G fun _ _ tx _ sw=>?_
        obtain⟨_,_,rfl,⟨_,_,_,_,rfl,da⟩,rfl⟩:=tx
        have da:=da.ext sw
        refine aB (mv 1 G ?_)
        exact aE G aD ⟨_,_,rfl,⟨_,_,_,_,rfl,da⟩,rfl⟩
       ·intro _ _
        refine aO G G fun _ _ xb _ uc=>?_
        obtain⟨_,_,rfl,⟨mn,vc,vz,qu,rfl,dv⟩,rfl⟩:=xb
        have dv:=dv.ext uc
        refine aB ?_
        exact⟨J mn vc vz qu,rfl,rfl,fun _=>by kernel_rfl,⟨_,_,_,_,rfl,dv⟩⟩
       ·intro _ _
        refine aO G G fun _ _ tq _ wg=>?_
        obtain⟨_,_,rfl,⟨_,_,_,_,rfl,je⟩,rfl⟩:=tq
        have je:=je.ext wg
        refine aB ?_
        exact⟨v4 0,rfl,rfl,fun _=>by kernel_rfl,rfl⟩
       ·intro _ H
        have p:=E.trans H
        refine dk G G (dk G G (aO G G fun _ _ ud _ vt=>?_))
        obtain⟨_,_,_,_,rfl,fe⟩:=ud
        have fe:=fe.ext vt
        refine dk G G (aO G G fun _ _ tj _ vp=>?_)
        obtain⟨_,_,rfl,⟨_,_,_,_,rfl,jb⟩,rfl⟩:=tj
        have jb:=jb.ext vp
        refine aO G G fun _ _ mu _ oh=>?_
        obtain⟨_,_,rfl,⟨_,_,_,_,rfl,gg⟩,rfl⟩:=mu
        have gg:=gg.ext oh
        refine aO G G fun _ _ ue _ qy=>?_
        obtain⟨fh,jj,io,ja,rfl,cv⟩:=ue
        have cv:=cv.ext qy
        refine dk G G (aB ?_)
        have aw:=(b_8.ext H)
        refine so a8 aw (O fh jj io ja) p U G G G G fun _ jk M D=>(aR (cF (aK (sr (mv 1 G (aT G G G ((wv/2:Nat):Int) (j6 (a:=wv) (b:=2) G G) (mv 1 G (aA ?_))))))))
        have wm:ln ((x^(2^(64*k+j))%z)*(x^(2^(64*k+j))%z))≤2147483648:=a6 (dR (a6 (bO hm0) Lz) (a6 (bO hm0) Lz)) (by decide)
        have Aw:ln (((x^(2^(64*k+j))%z)*(x^(2^(64*k+j))%z))%z)≤1073741824:=a6 (bO hm0) Lz
        refine cU bR 8 [6,7] [Is (J f.s f.A f.n f.c),Is (J f.s f.A f.n f.c),ZR w.heap.size ((x^(2^(64*k+j))%z)*(x^(2^(64*k+j))%z)),Is (J sb Ab nb cb),T2 (ZR w.heap.size (((x^(2^(64*k+j))%z)*(x^(2^(64*k+j))%z))%z)) (Is (v4 0)),T2 (ZR w.heap.size (((x^(2^(64*k+j))%z)*(x^(2^(64*k+j))%z))%z)) (Is (v4 0)),ZR w.heap.size (((x^(2^(64*k+j))%z)*(x^(2^(64*k+j))%z))%z),Is (v4 0)] [[],[],[0,1],[],[2,3],[4],[5],[5]] [[],[],[0,1],[],[0,1,2,3],[0,1,2,3,4],[0,1,2,3,4,5],[0,1,2,3,4,5],[0,1,2,3,4,5,6]] rfl
         (aF G G (aC G G ?_) (aF G G (aC G G ?_) (aF G G (aC G G ?_) (aF G G (aC G G ?_) (aF G G (aC G G ?_) (aF G G (aC G G ?_) (cV G G (cY G ?_) (cV G G (cY G ?_) cE)))))))) ?_
        ·exact fun _ xz=>aB (lo a8 (((b_10.ext H).vN M).ext xz) (O f.s f.A f.n f.c) G G G (aE G aD G))
        ·exact fun _ oc=>aB (lo a8 (((b_10.ext H).vN M).ext oc) (O f.s f.A f.n f.c) G G G (aE G aD G))
        ·intro _ cm
         have F:=D.trans cm
         refine dk G G (dk G G (aB ?_))
         have Av:ln ((x^(2^(64*k+j))%z)*(x^(2^(64*k+j))%z))≤2147483648:=a6 (dR (a6 (bO hm0) Lz) (a6 (bO hm0) Lz)) (by decide)
         refine cl (vs:= [J f.s f.A f.n f.c,J f.s f.A f.n f.c]) F (k9 F.size (((q.ext H).updT aw M).ext cm).zi (q.le (a6 (a6 (bO hm0) Lz) (by decide))) (((q.ext H).updT aw M).ext cm).zi (q.le (a6 (a6 (bO hm0) Lz) (by decide)))) G (by kernel_rfl) fun _ _ re sk aq=>?_
         obtain⟨_,_,_,_,rfl,pj⟩:=re
         exact aE G sk ⟨_,_,_,_,rfl,pj⟩
        ·exact fun _ qq=>aB (lo a8 (((b_5.ext H).vN M).ext qq) (O sb Ab nb cb) G G G (aE G aD G))
        ·intro _ kj
         have F:=D.trans kj
         refine aO G G fun _ _ oa _ vf=>?_
         obtain⟨nh,mo,vq,we,rfl,cg⟩:=oa
         have cg:=cg.ext vf
         refine dk G G (aB ?_)
         have An:ln (((x^(2^(64*k+j))%z)*(x^(2^(64*k+j))%z))%z)≤1073741824:=a6 (bO hm0) Lz
         refine cl (vs:= [J nh mo vq we,J sb Ab nb cb]) F (k8 F.size cg.zi (cg.le (aL wm G)) (hz.ext F) (aL lb G) hm0) G (by kernel_rfl) fun _ _ tg sj aq=>?_
         obtain⟨_,_,rfl,⟨_,_,_,_,rfl,qn⟩,rfl⟩:=tg
         exact aE G sj ⟨_,_,rfl,⟨_,_,_,_,rfl,qn⟩,rfl⟩
        ·intro _ _
         refine aO G G fun _ _ vw _ ug=>?_
         obtain⟨_,_,rfl,⟨_,_,_,_,rfl,el⟩,rfl⟩:=vw
         have el:=el.ext ug
         refine aB (mv 1 G ?_)
         exact aE G aD ⟨_,_,rfl,⟨_,_,_,_,rfl,el⟩,rfl⟩
        ·intro _ _
         refine aO G G fun _ _ xj _ uh=>?_
         obtain⟨_,_,rfl,⟨xi,lg,qx,rn,rfl,cn⟩,rfl⟩:=xj
         have cn:=cn.ext uh
         refine aB ?_
         exact⟨J xi lg qx rn,rfl,rfl,fun _=>by kernel_rfl,⟨_,_,_,_,rfl,cn⟩⟩
        ·intro _ _
         refine aO G G fun _ _ uw _ sy=>?_
         obtain⟨_,_,rfl,⟨_,_,_,_,rfl,fy⟩,rfl⟩:=uw
         have fy:=fy.ext sy
         refine aB ?_
         exact⟨v4 0,rfl,rfl,fun _=>by kernel_rfl,rfl⟩
        ·intro _ ah
         have F:=D.trans ah
         refine dk G G (dk G G (aO G G fun _ _ sc _ qc=>?_))
         obtain⟨_,_,_,_,rfl,fi⟩:=sc
         have fi:=fi.ext qc
         refine dk G G (aO G G fun _ _ vr _ tp=>?_)
         obtain⟨_,_,rfl,⟨_,_,_,_,rfl,ga⟩,rfl⟩:=vr
         have ga:=ga.ext tp
         refine aO G G fun _ _ mq _ xu=>?_
         obtain⟨_,_,rfl,⟨_,_,_,_,rfl,ia⟩,rfl⟩:=mq
         have ia:=ia.ext xu
         refine aO G G fun _ _ xe _ nt=>?_
         obtain⟨fx,gi,iw,iy,rfl,ee⟩:=xe
         have ee:=ee.ext nt
         refine dk G G (aB ?_)
         have bj:=(((b_10.ext H).vN M).ext ah)
         refine so a8 bj (O fx gi iw iy) F ai G G G G fun lv jm aj aq=>(aR (cF (bM (aK (aJ (mv 1 G (aT G G G ((j+1:Nat):Int) (bK (a:=j) (b:=1) G G) (mv 1 G (aR (bX (⟨lv,j+1,wv/2,⟨fh,jj,io,ja⟩,⟨fx,gi,iw,iy⟩⟩:a7×Nat×Nat×ZC×ZC) ⟨aq,(by omega),(by rw [bd,Nat.div_div_eq_div_mul,←dJ]),((((b_3.ext H).vN M).ext ah).vN aj),((((b_4.ext H).vN M).ext ah).vN aj),((((b_5.ext H).vN M).ext ah).vN aj),((((b_6.ext H).vN M).ext ah).vN aj),((jk.ext ah).vN aj),jm,((((cv.updT aw M).ext ah).updT bj aj)).cast (CQ (by rw [dn];exact bi)),((ee.updT bj aj)).cast tX⟩ (show 64-(j+1)<64-j by omega) G ⟨rfl,rfl,rfl,rfl,rfl,rfl,rfl,rfl,rfl,rfl,rfl,Fo⟩))))))))))
      ·refine aJ (mv 1 G (aT G G G ((wv%2:Nat):Int) (jL (a:=wv) (b:=2) G G) (aN G G G false (nV (a:=wv%2) (b:=1) G G) (aA (aV G (b8 (aK (sr (mv 1 G (aT G G G ((wv/2:Nat):Int) (j6 (a:=wv) (b:=2) G G) (mv 1 G (aA ?_))))))))))))
       have pt:ln ((x^(2^(64*k+j))%z)*(x^(2^(64*k+j))%z))≤2147483648:=a6 (dR (a6 (bO hm0) Lz) (a6 (bO hm0) Lz)) (by decide)
       have Au:ln (((x^(2^(64*k+j))%z)*(x^(2^(64*k+j))%z))%z)≤1073741824:=a6 (bO hm0) Lz
       refine cU bR 8 [6,7] [Is (J f.s f.A f.n f.c),Is (J f.s f.A f.n f.c),ZR w.heap.size ((x^(2^(64*k+j))%z)*(x^(2^(64*k+j))%z)),Is (J sb Ab nb cb),T2 (ZR w.heap.size (((x^(2^(64*k+j))%z)*(x^(2^(64*k+j))%z))%z)) (Is (v4 0)),T2 (ZR w.heap.size (((x^(2^(64*k+j))%z)*(x^(2^(64*k+j))%z))%z)) (Is (v4 0)),ZR w.heap.size (((x^(2^(64*k+j))%z)*(x^(2^(64*k+j))%z))%z),Is (v4 0)] [[],[],[0,1],[],[2,3],[4],[5],[5]] [[],[],[0,1],[],[0,1,2,3],[0,1,2,3,4],[0,1,2,3,4,5],[0,1,2,3,4,5],[0,1,2,3,4,5,6]] rfl
        (aF G G (aC G G ?_) (aF G G (aC G G ?_) (aF G G (aC G G ?_) (aF G G (aC G G ?_) (aF G G (aC G G ?_) (aF G G (aC G G ?_) (cV G G (cY G ?_) (cV G G (cY G ?_) cE)))))))) ?_
       ·exact fun _ oq=>aB (lo a8 (b_10.ext oq) (O f.s f.A f.n f.c) G G G (aE G aD G))
       ·exact fun _ va=>aB (lo a8 (b_10.ext va) (O f.s f.A f.n f.c) G G G (aE G aD G))
       ·intro _ dd
        have p:=E.trans dd
        refine dk G G (dk G G (aB ?_))
        have Ba:ln ((x^(2^(64*k+j))%z)*(x^(2^(64*k+j))%z))≤2147483648:=a6 (dR (a6 (bO hm0) Lz) (a6 (bO hm0) Lz)) (by decide)
        refine cl (vs:= [J f.s f.A f.n f.c,J f.s f.A f.n f.c]) p (k9 p.size (q.ext dd).zi (q.le (a6 (a6 (bO hm0) Lz) (by decide))) (q.ext dd).zi (q.le (a6 (a6 (bO hm0) Lz) (by decide)))) G (by kernel_rfl) fun _ _ mh qz D=>?_
        obtain⟨_,_,_,_,rfl,py⟩:=mh
        exact aE G qz ⟨_,_,_,_,rfl,py⟩
       ·exact fun _ vn=>aB (lo a8 (b_5.ext vn) (O sb Ab nb cb) G G G (aE G aD G))
       ·intro _ kz
        have p:=E.trans kz
        refine aO G G fun _ _ rj _ pd=>?_
        obtain⟨mt,po,mi,wk,rfl,bv⟩:=rj
        have bv:=bv.ext pd
        refine dk G G (aB ?_)
        have Ak:ln (((x^(2^(64*k+j))%z)*(x^(2^(64*k+j))%z))%z)≤1073741824:=a6 (bO hm0) Lz
        refine cl (vs:= [J mt po mi wk,J sb Ab nb cb]) p (k8 p.size bv.zi (bv.le (aL pt G)) (hz.ext p) (aL lb G) hm0) G (by kernel_rfl) fun _ _ ub qf D=>?_
        obtain⟨_,_,rfl,⟨_,_,_,_,rfl,tz⟩,rfl⟩:=ub
        exact aE G qf ⟨_,_,rfl,⟨_,_,_,_,rfl,tz⟩,rfl⟩
       ·intro _ _
        refine aO G G fun _ _ me _ qt=>?_
        obtain⟨_,_,rfl,⟨_,_,_,_,rfl,ef⟩,rfl⟩:=me
        have ef:=ef.ext qt
        refine aB (mv 1 G ?_)
        exact aE G aD ⟨_,_,rfl,⟨_,_,_,_,rfl,ef⟩,rfl⟩
       ·intro _ _
        refine aO G G fun _ _ pr _ uq=>?_
        obtain⟨_,_,rfl,⟨tu,pw,oz,mx,rfl,dt⟩,rfl⟩:=pr
        have dt:=dt.ext uq
        refine aB ?_
        exact⟨J tu pw oz mx,rfl,rfl,fun _=>by kernel_rfl,⟨_,_,_,_,rfl,dt⟩⟩
       ·intro _ _
        refine aO G G fun _ _ ob _ uu=>?_
        obtain⟨_,_,rfl,⟨_,_,_,_,rfl,ip⟩,rfl⟩:=ob
        have ip:=ip.ext uu
        refine aB ?_
        exact⟨v4 0,rfl,rfl,fun _=>by kernel_rfl,rfl⟩
       ·intro _ Z
        have p:=E.trans Z
        refine dk G G (dk G G (aO G G fun _ _ vk _ lp=>?_))
        obtain⟨_,_,_,_,rfl,gt⟩:=vk
        have gt:=gt.ext lp
        refine dk G G (aO G G fun _ _ ta _ vo=>?_)
        obtain⟨_,_,rfl,⟨_,_,_,_,rfl,ij⟩,rfl⟩:=ta
        have ij:=ij.ext vo
        refine aO G G fun _ _ mp _ ku=>?_
        obtain⟨_,_,rfl,⟨_,_,_,_,rfl,iz⟩,rfl⟩:=mp
        have iz:=iz.ext ku
        refine aO G G fun _ _ qo _ qw=>?_
        obtain⟨fz,jh,go,fg,rfl,dw⟩:=qo
        have dw:=dw.ext qw
        refine dk G G (aB ?_)
        have bp:=(b_10.ext Z)
        refine so a8 bp (O fz jh go fg) p ai G G G G fun kn jy am D=>(aR (cF (bM (aK (aJ (mv 1 G (aT G G G ((j+1:Nat):Int) (bK (a:=j) (b:=1) G G) (mv 1 G (aR (bX (⟨kn,j+1,wv/2,⟨o.s,o.A,o.n,o.c⟩,⟨fz,jh,go,fg⟩⟩:a7×Nat×Nat×ZC×ZC) ⟨D,(by omega),(by rw [bd,Nat.div_div_eq_div_mul,←dJ]),((b_3.ext Z).vN am),((b_4.ext Z).vN am),((b_5.ext Z).vN am),((b_6.ext Z).vN am),((b_8.ext Z).vN am),jy,(((bc.ext Z).updT bp am)).cast (CR (by rw [dn];exact bi)),((dw.updT bp am)).cast tX⟩ (show 64-(j+1)<64-j by omega) G ⟨rfl,rfl,rfl,rfl,rfl,rfl,rfl,rfl,rfl,rfl,rfl,Fo⟩))))))))))
     ·have su:ds.getD k 0/2^j=0:=by rw [←bd];omega
      refine aJ (mv 1 G (aN G G G true (cG (a:=j) (b:=64) G G) (mv 2 G (aN G G G false (nU (a:=wv) (b:=0) G G) (mv 2 G (aT G G G ((k+1:Nat):Int) (bK (a:=k) (b:=1) G G) (mv 1 G (pu (v:= v4 K) G (aN G G G false (cL (a:=k+1) (b:=K) G G) (pu (v:= BY) G (pu (v:= BY) G (aA (aV G ?_)))))))))))))
      refine cR (cK (cN (cO (bM (aK (aJ (mv 1 G (aT G G G ((k+1:Nat):Int) (bK (a:=k) (b:=1) G G) (mv 1 G (aR (bX (⟨wi,k+1,⟨o.s,o.A,o.n,o.c⟩,⟨f.s,f.A,f.n,f.c⟩,_⟩:a7×Nat×ZC×ZC×Int) ⟨E,(by omega),(fun h=>by omega),(a6 (bO hm0) Lz),b_3,b_4,b_5,b_6,b_8,b_10,(bc).cast (NZ dz (by omega) hj su),q⟩ (show K-(k+1)<K-k by omega) G ⟨rfl,rfl,rfl,rfl,rfl,rfl,rfl,rfl,rfl,Fo⟩)))))))))))
   ·have ct:64*k+j=64*(k+1):=by omega
    refine aJ (mv 1 G (aN G G G false (cL (a:=j) (b:=64) G G) (mv 10 G (pu (v:= BY) G (aA (aV G (cR (cK (cN (cO (bM (aK (aJ ?_)))))))))))))
    refine mv 1 G (aT G G G ((k+1:Nat):Int) (bK (a:=k) (b:=1) G G) (mv 1 G (aR (bX (⟨wi,k+1,⟨o.s,o.A,o.n,o.c⟩,⟨f.s,f.A,f.n,f.c⟩,_⟩:a7×Nat×ZC×ZC×Int) ⟨E,(by omega),(fun _=>by rw [ct]),(a6 (bO hm0) Lz),b_3,b_4,b_5,b_6,b_8,b_10,(bc).cast (by rw [ct]),q⟩ (show K-(k+1)<K-k by omega) G ⟨rfl,rfl,rfl,rfl,rfl,rfl,rfl,rfl,rfl,Fo⟩))))
  ·refine aJ (mv 2 G (pu (v:= v4 K) G (aN G G G false (cL (a:=k) (b:=K) G G) (aA (aV G (cR (cK (cN (cO (aK (sr (lo a8 b_8 (O kp.s kp.A kp.n kp.c) G G G ?_))))))))))))
   have cp:=b_6
   refine so a8 cp (O kp.s kp.A kp.n kp.c) E oe G G G G fun _ jo xf p=>(mv 1 G (aA (bD (bC [J kp.s kp.A kp.n kp.c,I0] G ⟨⟨_,rfl,aW a8 jo (O kp.s kp.A kp.n kp.c) G (bq G) rfl⟩,rfl,Fo⟩ ?_))))
   exact⟨_,rfl,⟨_,_,rfl,⟨_,_,_,_,rfl,((zp.updT cp xf)).cast (by rw [show k=K by omega,T5 dz zt,ml])⟩,rfl⟩,p⟩
noncomputable def oT:List Int→List Int
 | []=> []
 | z::zs=>(oT zs).map (· *eO (bQ zs.reverse) z)++ [gJ (bQ zs.reverse) z]
theorem yL:∀{l cs:List Int},pB l cs→cs=oT l
 | [],cs,h=>h
 | z::zs,cs,⟨u,v,c,h1,h2,h3⟩=>by
  obtain⟨rfl,rfl⟩:=h2.eqs
  rw [h3,yL h1];rfl
noncomputable def j2 (x y:Int):Int:=if y=0 then 0 else if (Int.gcd x y:Int)=1 then eO x y else 0
def fR (x y:Int):Int:=if y=0 then 4 else if (Int.gcd x y:Int)=1 then 0 else 6
def iZ (x y z:Int):Int:=if y<0 then 0 else if z=0 then 0 else x^y.natAbs%z
def fP (y z:Int):Int:=if y<0 then 3 else if z=0 then 4 else 0
noncomputable def qI (x m y n:Int):Int:=x+m*((y-x).tdiv (Int.gcd m n:Int)*eO m n)
open Classical in
noncomputable def j4 (x m y n:Int):Int:=if m=0∨n=0 then 0 else if (Int.gcd m n:Int)∣y-x then qI x m y n%(Int.lcm m n:Int) else 0
open Classical in
noncomputable def j5 (x m y n:Int):Int:=if m=0∨n=0 then 0 else if (Int.gcd m n:Int)∣y-x then (Int.lcm m n:Int) else 0
open Classical in
noncomputable def fV (x m y n:Int):Int:=if m=0∨n=0 then 4 else if (Int.gcd m n:Int)∣y-x then 0 else 6
theorem GB (x m y n:Int):m∣x-qI x m y n:=⟨-((y-x).tdiv (Int.gcd m n:Int)*eO m n),by unfold qI;rw [Int.mul_neg];omega⟩
theorem G9 {n:Int}(hd:(Int.gcd m n:Int)∣y-x):n∣y-qI x m y n:=by
 obtain⟨t,f⟩:=hd
 by_cases h:(Int.gcd m n:Int)=0
 ·rw [h,Int.zero_mul] at f
  obtain⟨hm,hn⟩:=Int.gcd_eq_zero_iff.1 (show Int.gcd m n=0 by omega)
  subst hm;subst hn
  unfold qI;rw [Int.zero_mul];exact⟨0,by omega⟩
 ·have p:(y-x).tdiv (Int.gcd m n:Int)=t:=by rw [f];exact Int.mul_tdiv_cancel_left _ h
  have o:=(iR m n).eq
  refine⟨gJ m n*t,?_⟩
  unfold qI
  rw [p]
  have q:m*(t*eO m n)+n*(gJ m n*t)=y-x:=by rw [f,←o];grind
  omega
open Classical in
noncomputable def sK (rs ms:List Int):Int:=if h:∃s,∀i,i<ms.length→ms.getD i 0∣rs.getD i 0-s then o3 h else 0
open Classical in
noncomputable def eC (rs ms:List Int)(n m:Nat):Int:=if n≠m then 2 else if∃i,i<n∧ms.getD i 0=0 then 4 else if∃s,∀i,i<ms.length→ms.getD i 0∣rs.getD i 0-s then 0 else 6
noncomputable def iJ (rs ms:List Int)(n m:Nat):Int:=if eC rs ms n m=0 then sK rs ms%bV ms else 0
noncomputable def iK (rs ms:List Int)(n m:Nat):Int:=if eC rs ms n m=0 then bV ms else 0
theorem E0 (hx:ln x≤N)(hy:ln y≤N):ln (j2 x y)≤N+1:=by
 unfold j2;split
 ·exact bJ _
 ·split
  ·exact (iR x y).ln_u hx hy
  ·exact bJ _
theorem DZ (hz:ln z≤N):ln (iZ x y z)≤N:=by
 unfold iZ;split
 ·exact bJ _
 ·split
  ·exact bJ _
  ·rename_i h;exact a6 (bO h) hz
theorem E2 {n:Int}(hm:ln m≤N)(hn:ln n≤N):ln (j5 x m y n)≤N+N:=by
 unfold j5;split
 ·exact bJ _
 ·split
  ·exact a6 (q9 _ _) (Nat.add_le_add hm hn)
  ·exact bJ _
theorem E1 {n:Int}(hm:ln m≤N)(hn:ln n≤N):ln (j4 x m y n)≤N+N:=by
 unfold j4;split
 ·exact bJ _
 ·rename_i h
  split
  ·exact a6 (bO (kX (fun e=>h (bS e)) (fun e=>h (bW e)))) (a6 (q9 _ _) (Nat.add_le_add hm hn))
  ·exact bJ _
theorem SI {ms:List Int}{m:Nat}(hm:ms.length=m)(h:eC rs ms n m=0):∀i,i<ms.length→ms.getD i 0≠0:=by
 unfold eC at h
 split at h
 ·omega
 ·rename_i _
  split at h
  ·omega
  ·rename_i f
   intro i hi e
   exact f ⟨i,by omega,e⟩
theorem E4 {ms:List Int}{m:Nat}(h:(ms.map ln).sum≤1048576):ln (iK rs ms n m)≤1048577:=by
 unfold iK;split
 ·have:=g0 h ms.length;rwa [List.take_length] at this
 ·exact bJ _
theorem E3 {ms:List Int}{m:Nat}(hm:ms.length=m)(h:(ms.map ln).sum≤1048576):ln (iJ rs ms n m)≤1048577:=by
 unfold iJ;split
 ·rename_i o
  have f:=g0 h ms.length
  rw [List.take_length] at f
  have p:=NW (SI hm o)
  exact a6 (bO (by omega)) f
 ·exact bJ _
theorem BG:∀(a b:List Nat),a.length=b.length→(∀i,i<a.length→a.getD i 0≤b.getD i 0)→a.sum≤b.sum
 | [],[],_,_=>aS _
 | x::a,y::b,h,k=>by
  have h0:=k 0 (by simp)
  have f:=BG a b (by simpa using h) (fun i hi=>by have:=k (i+1) (by simpa using hi);simpa using this)
  simp at h0
  simp only [List.sum_cons];omega
 | [],y::b,h,_=>by simp at h
 | x::a,[],h,_=>by simp at h
theorem kJ (h:Zl w A n cap zs ms):(zs.map ln).sum≤ms.sum:=by
 refine BG _ _ (by rw [List.length_map,h.len,h.mlen]) fun i hi=>?_
 rw [List.length_map,h.len] at hi
 obtain⟨p,s,B,c,_,_,f⟩:=h.at hi
 have e:(zs.map ln).getD i 0=ln (zs.getD i 0):=by simp [bE,List.getElem?_map,cA (show i<zs.length by rw [h.len];exact hi)]
 rw [e];exact f.ln
theorem KD (hb:b≤w.heap.size)(hx:Zi w sa Aa na ca x)(la:na≤1048576){nb:Nat}(hy:Zi w sb Ab nb cb y)(lb:nb≤1048576):aQ aM 7 #[J sa Aa na ca,J sb Ab nb cb] w (Gv w (TE (ZR b (Int.gcd x y:Int)) (ZR b (eO x y)) (ZR b (gJ x y)))):=by
 exact (yI hb hx (a6 la (by decide)) hy (a6 lb (by decide))).mono fun _ _ ⟨u,v,h,q,f,p,o⟩=>⟨q,f,(by obtain⟨rfl,rfl⟩:=h.eqs;exact p),o⟩
theorem KA (hb:b≤w.heap.size)(hx:Zi w sa Aa na ca x)(la:na≤1048576){nb:Nat}(hy:Zi w sb Ab nb cb y)(lb:nb≤1048576):aQ aM 48 #[J sa Aa na ca,J sb Ab nb cb] w (Gv w (T2 (ZR b (j2 x y)) (Is (v4 (fR x y))))):=by
 by_cases f:y=0
 ·simp only [j2,fR,if_pos f]
  exact QL hb hx (a6 la (by decide)) hy (a6 lb (by decide)) f
 ·by_cases o:(Int.gcd x y:Int)=1
  ·simp only [j2,fR,if_neg f,if_pos o]
   exact (QN hb hx (a6 la (by decide)) hy (a6 lb (by decide)) f o).mono fun _ _ ⟨u,v,h,E,p,D,q⟩=>⟨E,p,(by obtain⟨rfl,rfl⟩:=h.eqs;exact D),q⟩
  ·simp only [j2,fR,if_neg f,if_neg o]
   exact QP hb hx (a6 la (by decide)) hy (a6 lb (by decide)) f o
theorem K9 (hb:b≤w.heap.size)(hx:Zi w sa Aa na ca x)(la:na≤1048576){nb:Nat}(hy:Zi w sb Ab nb cb y)(lb:nb≤1048576)(hz:Zi w sd Ad nd cd z)(ld:nd≤1048576):aQ aM 49 #[J sa Aa na ca,J sb Ab nb cb,J sd Ad nd cd] w (Gv w (T2 (ZR b (iZ x y z)) (Is (v4 (fP y z))))):=by
 by_cases f:y<0
 ·simp only [iZ,fP,if_pos f]
  exact QJ hb hx (a6 la (by decide)) hy (a6 lb (by decide)) hz (a6 ld (by decide)) f
 ·by_cases h:z=0
  ·simp only [iZ,fP,if_neg f,if_pos h]
   exact QF hb hx (a6 la (by decide)) hy (a6 lb (by decide)) hz (a6 ld (by decide)) (by omega) h
  ·simp only [iZ,fP,if_neg f,if_neg h]
   exact QH hb hx (a6 la (by decide)) hy (a6 lb (by decide)) hz (a6 ld (by decide)) (by omega) h
theorem KF (hb:b≤w.heap.size)(hx:Zi w sa Aa na ca x)(la:na≤1048576){nb:Nat}(hy:Zi w sb Ab nb cb y)(lb:nb≤1048576)(hz:Zi w sd Ad nd cd z)(ld:nd≤1048576)(hu:Zi w se Ae ne ce u)(le:ne≤1048576):aQ aM 50 #[J sa Aa na ca,J sb Ab nb cb,J sd Ad nd cd,J se Ae ne ce] w (Gv w (TA (ZR b (j4 x y z u)) (ZR b (j5 x y z u)) (Is (v4 (fV x y z u))))):=by
 by_cases f:y=0∨u=0
 ·simp only [j4,j5,fV,if_pos f]
  exact QW hb hx (a6 la (by decide)) hy (a6 lb (by decide)) hz (a6 ld (by decide)) hu (a6 le (by decide)) f
 ·have o:y≠0:=fun e=>f (bS e)
  have p:u≠0:=fun e=>f (bW e)
  by_cases h:(Int.gcd y u:Int)∣z-x
  ·simp only [j4,j5,fV,if_neg f,if_pos h]
   exact yJ hb hx (a6 la (by decide)) hy (a6 lb (by decide)) hz (a6 ld (by decide)) hu (a6 le (by decide)) o p (GB x y z u) (G9 h)
  ·simp only [j4,j5,fV,if_neg f,if_neg h]
   exact FC hb hx (a6 la (by decide)) hy (a6 lb (by decide)) hz (a6 ld (by decide)) hu (a6 le (by decide)) o p h
theorem KB (hb:b≤w.heap.size)(hl:Zl w A n cap zs ms)(hn:n≤1048576)(hs:ms.sum≤1048576):aQ aM 45 #[AT A n cap] w (Gv w (ZR b (bQ zs))):=by
 exact QQ hb hl (by omega) (fun i=>a6 (gR _ _) (by omega))
theorem KC (hb:b≤w.heap.size)(hb2:b2≤w.heap.size)(hl:Zl w A n cap zs ms)(hn:n≤1048576)(hs:ms.sum≤1048576):aQ aM 47 #[AT A n cap] w (Gv w (TD 8388608 b b2 n (bQ zs) (oT zs.reverse))):=by
 exact (QR hb hb2 hl hn (fun i=>a6 (gR _ _) hs) (a6 (kJ hl) hs)).mono fun _ _ ⟨cs,h,f⟩=>by rw [←yL h.ex];exact f
theorem KE (hb:b≤w.heap.size){m:Nat}(hr:Zl w A n cap rs ks)(hm:Zl w B m cap2 zs js)(hn:n≤1048576)(hn2:m≤1048576)(hks:ks.sum≤1048576)(hjs:js.sum≤1048576):aQ aM 51 #[AT A n cap,AT B m cap2] w (Gv w (TA (ZR b (iJ rs zs n m)) (ZR b (iK rs zs n m)) (Is (v4 (eC rs zs n m))))):=by
 by_cases o:n=m
 ·subst o
  by_cases h:∃i,i<n∧zs.getD i 0=0
  ·have he:eC rs zs n n=4:=by unfold eC;rw [if_neg (by simp),if_pos h]
   simp only [iJ,iK,he]
   obtain⟨i,hi⟩:=h
   exact QS hb hr hm (by omega) (fun i=>a6 (gR _ _) (by omega)) (fun i=>a6 (gR _ _) (by omega)) (a6 (kJ hm) hjs) hi
  ·have p:∀i,i<zs.length→zs.getD i 0≠0:=fun i hi e=>h ⟨i,by rw [←hm.len];exact hi,e⟩
   by_cases f:∃s,∀i,i<zs.length→zs.getD i 0∣rs.getD i 0-s
   ·have he:eC rs zs n n=0:=by unfold eC;rw [if_neg (by simp),if_neg h,if_pos f]
    have hs:sK rs zs=o3 f:=by unfold sK;rw [dif_pos f]
    simp only [iJ,iK,he,if_true,hs]
    exact QT hb hr hm (by omega) (fun i=>a6 (gR _ _) (by omega)) (fun i=>a6 (gR _ _) (by omega)) (a6 (kJ hm) hjs) p (pL f)
   ·have he:eC rs zs n n=6:=by unfold eC;rw [if_neg (by simp),if_neg h,if_neg f]
    simp only [iJ,iK,he]
    exact QU hb hr hm (by omega) (fun i=>a6 (gR _ _) (by omega)) (fun i=>a6 (gR _ _) (by omega)) (a6 (kJ hm) hjs) p (fun⟨s,k⟩=>f ⟨s,fun i hi=>k i (by rw [←hm.len];exact hi)⟩)
 ·have he:eC rs zs n m=2:=by unfold eC;rw [if_pos o]
  simp only [iJ,iK,he]
  exact QV hb o
theorem K6 (hb:b≤w.heap.size)(hx:Zi w sa Aa na ca x)(la:na≤1048576){nb:Nat}(hy:Zi w sb Ab nb cb y)(lb:nb≤1048576):aQ aM 38 #[J sa Aa na ca,J sb Ab nb cb] w (Gv w (T3 (ZR b (Int.gcd x y:Int)) (ZR b (eO x y)) (ZR b (gJ x y)))):=by
 exact (F3 hb hx (a6 la (by decide)) hy (a6 lb (by decide))).mono fun _ _ ⟨u,v,h,q,f,p,o⟩=>⟨q,f,(by obtain⟨rfl,rfl⟩:=h.eqs;exact p),o⟩
theorem K3 (hb:b≤w.heap.size)(hx:Zi w sa Aa na ca x)(la:na≤1048576){nb:Nat}(hy:Zi w sb Ab nb cb y)(lb:nb≤1048576):aQ aM 40 #[J sa Aa na ca,J sb Ab nb cb] w (Gv w (T2 (ZR b (j2 x y)) (Is (v4 (fR x y))))):=by
 by_cases f:y=0
 ·simp only [j2,fR,if_pos f]
  exact PC hb hx (a6 la (by decide)) hy (a6 lb (by decide)) f
 ·by_cases o:(Int.gcd x y:Int)=1
  ·simp only [j2,fR,if_neg f,if_pos o]
   exact (F2 hb hx (a6 la (by decide)) hy (a6 lb (by decide)) f o).mono fun _ _ ⟨u,v,h,E,p,D,q⟩=>⟨E,p,(by obtain⟨rfl,rfl⟩:=h.eqs;exact D),q⟩
  ·simp only [j2,fR,if_neg f,if_neg o]
   exact PD hb hx (a6 la (by decide)) hy (a6 lb (by decide)) f o
theorem K1 (hb:b≤w.heap.size)(hx:Zi w sa Aa na ca x)(la:na≤1048576){nb:Nat}(hy:Zi w sb Ab nb cb y)(lb:nb≤1048576)(hz:Zi w sd Ad nd cd z)(ld:nd≤1048576):aQ aM 41 #[J sa Aa na ca,J sb Ab nb cb,J sd Ad nd cd] w (Gv w (T2 (ZR b (iZ x y z)) (Is (v4 (fP y z))))):=by
 by_cases f:y<0
 ·simp only [iZ,fP,if_pos f]
  exact PA hb hx (a6 la (by decide)) hy (a6 lb (by decide)) hz (a6 ld (by decide)) f
 ·by_cases h:z=0
  ·simp only [iZ,fP,if_neg f,if_pos h]
   exact P8 hb hx (a6 la (by decide)) hy (a6 lb (by decide)) hz (a6 ld (by decide)) (by omega) h
  ·simp only [iZ,fP,if_neg f,if_neg h]
   exact P9 hb hx (a6 la (by decide)) hy (a6 lb (by decide)) hz (a6 ld (by decide)) (by omega) h
theorem K8 (hb:b≤w.heap.size)(hx:Zi w sa Aa na ca x)(la:na≤1048576){nb:Nat}(hy:Zi w sb Ab nb cb y)(lb:nb≤1048576)(hz:Zi w sd Ad nd cd z)(ld:nd≤1048576)(hu:Zi w se Ae ne ce u)(le:ne≤1048576):aQ aM 42 #[J sa Aa na ca,J sb Ab nb cb,J sd Ad nd cd,J se Ae ne ce] w (Gv w (T3 (ZR b (j4 x y z u)) (ZR b (j5 x y z u)) (Is (v4 (fV x y z u))))):=by
 by_cases f:y=0∨u=0
 ·simp only [j4,j5,fV,if_pos f]
  exact PH hb hx (a6 la (by decide)) hy (a6 lb (by decide)) hz (a6 ld (by decide)) hu (a6 le (by decide)) f
 ·have o:y≠0:=fun e=>f (bS e)
  have p:u≠0:=fun e=>f (bW e)
  by_cases h:(Int.gcd y u:Int)∣z-x
  ·simp only [j4,j5,fV,if_neg f,if_pos h]
   exact yF hb hx (a6 la (by decide)) hy (a6 lb (by decide)) hz (a6 ld (by decide)) hu (a6 le (by decide)) o p (GB x y z u) (G9 h)
  ·simp only [j4,j5,fV,if_neg f,if_neg h]
   exact F4 hb hx (a6 la (by decide)) hy (a6 lb (by decide)) hz (a6 ld (by decide)) hu (a6 le (by decide)) o p h
theorem K4 (hb:b≤w.heap.size)(hl:Zl w A n cap zs ms)(hn:n≤1048576)(hs:ms.sum≤1048576):aQ aM 36 #[AT A n cap] w (Gv w (ZR b (bQ zs))):=by
 exact PE hb hl (by omega) (fun i=>a6 (gR _ _) (by omega))
theorem K5 (hb:b≤w.heap.size)(hb2:b2≤w.heap.size)(hl:Zl w A n cap zs ms)(hn:n≤1048576)(hs:ms.sum≤1048576):aQ aM 39 #[AT A n cap] w (Gv w (T2 (ZR b (bQ zs)) (LR 8388608 b b2 n (oT zs.reverse)))):=by
 exact (PG hb hb2 hl hn (fun i=>a6 (gR _ _) hs) (a6 (kJ hl) hs)).mono fun _ _ ⟨cs,h,f⟩=>by rw [←yL h.ex];exact f
theorem K7 (hb:b≤w.heap.size){m:Nat}(hr:Zl w A n cap rs ks)(hm:Zl w B m cap2 zs js)(hn:n≤1048576)(hn2:m≤1048576)(hks:ks.sum≤1048576)(hjs:js.sum≤1048576):aQ aM 43 #[AT A n cap,AT B m cap2] w (Gv w (T3 (ZR b (iJ rs zs n m)) (ZR b (iK rs zs n m)) (Is (v4 (eC rs zs n m))))):=by
 by_cases o:n=m
 ·subst o
  by_cases h:∃i,i<n∧zs.getD i 0=0
  ·have he:eC rs zs n n=4:=by unfold eC;rw [if_neg (by simp),if_pos h]
   simp only [iJ,iK,he]
   obtain⟨i,hi⟩:=h
   exact PI hb hr hm (by omega) (fun i=>a6 (gR _ _) (by omega)) (fun i=>a6 (gR _ _) (by omega)) (a6 (kJ hm) hjs) hi
  ·have p:∀i,i<zs.length→zs.getD i 0≠0:=fun i hi e=>h ⟨i,by rw [←hm.len];exact hi,e⟩
   by_cases f:∃s,∀i,i<zs.length→zs.getD i 0∣rs.getD i 0-s
   ·have he:eC rs zs n n=0:=by unfold eC;rw [if_neg (by simp),if_neg h,if_pos f]
    have hs:sK rs zs=o3 f:=by unfold sK;rw [dif_pos f]
    simp only [iJ,iK,he,if_true,hs]
    exact PJ hb hr hm (by omega) (fun i=>a6 (gR _ _) (by omega)) (fun i=>a6 (gR _ _) (by omega)) (a6 (kJ hm) hjs) p (pL f)
   ·have he:eC rs zs n n=6:=by unfold eC;rw [if_neg (by simp),if_neg h,if_neg f]
    simp only [iJ,iK,he]
    exact PK hb hr hm (by omega) (fun i=>a6 (gR _ _) (by omega)) (fun i=>a6 (gR _ _) (by omega)) (a6 (kJ hm) hjs) p (fun⟨s,k⟩=>f ⟨s,fun i hi=>k i (by rw [←hm.len];exact hi)⟩)
 ·have he:eC rs zs n m=2:=by unfold eC;rw [if_pos o]
  simp only [iJ,iK,he]
  exact PL hb o
theorem SN {c:Bool}(e:Ending)(w':a7)(h:Gv w (Is (.bool c)) e w'):vR c w e w':=by
 obtain⟨v,rfl,f,o⟩:=h
 exact⟨by rw [f],o⟩
theorem kW {x:Nat}(h:x≤18446744073709551615):ln ((x:Nat):Int)≤1:=rY (by omega) (by omega)
theorem ZO.zr {x:Nat}(hx:x≤18446744073709551615)(h0:x≠0)(v:aI)(w:a7)(h:ZO b x v w):ZR b (x:Int) v w:=by
 obtain⟨A,rfl,f⟩:=h
 exact⟨_,_,_,_,rfl,vM (oL hx h0) (pY f hx h0)⟩
theorem ZO.imp {x:Nat}(hb:b≤b')(v:aI)(w:a7)(h:ZO b' x v w):ZO b x v w:=by
 obtain⟨A,rfl,f⟩:=h
 exact⟨A,rfl,f.mono hb⟩
theorem P5 {m d:Nat}(hx:Own w b 36 1 A n c ((wd k).map aY))(hl:n≤1099511627776)(hy:Own w b' 36 1 B m d ((wd k).map aY))(hl':m≤1099511627776):aQ aM 32 #[AT A n c,AT B m d] w (Gv w (Is (By))):=by
 have h:=CM (hx.rd (nW _)) hl (hy.rd (nW _)) hl'
 rw [decide_eq_true rfl] at h
 exact h.mono EV
theorem JK (h:Bez 12 18 u v):(Int.gcd 12 18:Int)=6∧u=2∧v= -1:=by
 have o:=h.eq
 have q:=h.lo (by decide)
 have f:=h.hi (by decide)
 have e:(Int.gcd 12 18:Int)=6:=by decide+kernel
 rw [e] at o f
 have p:Int.natAbs 18=18:=rfl
 rw [p] at f
 refine⟨e,?_,?_⟩ <;> omega
theorem Q4 {x:Nat}(hx:x≤18446744073709551615):aQ aM 8 #[AI x] w (Gv w (ZO w.heap.size (x))):=by
 refine bP Tryz.func8 G (n:=6) G (bq G) (args:= [AI x]) (bH [(0,AI x)] ⟨rfl,Fo⟩ (sr (al [F0,S0] (Ext.refl w) (fun _=>by kernel_rfl) G fun _ _ H E _ h=>(aA (sr (mv 1 G (fA G G (k:=1) (e:=36) [AI x] (fun _=>by kernel_rfl) fun D _ o=>?_)))))))
 have M:=O1.mk_ (x:=x) (b:=w.heap.size) o h.size
 have p:=o.ext
 have L:=h.trans p
 refine pu (v:= .agg #[F0,AT (some ⟨D,0,none⟩) 1 1]) G ?_
 have f:=(H.ext p)
 refine so a8 f [F0,AT (some ⟨D,0,none⟩) 1 1] L E G G G G fun _ q F I=>(aA (bD (bC [.agg #[F0,AT (some ⟨D,0,none⟩) 1 1]] G ⟨⟨_,rfl,aW a8 q [F0,AT (some ⟨D,0,none⟩) 1 1] G (bq G) rfl⟩,Fo⟩ ?_)))
 exact⟨_,rfl,⟨_,rfl,(M.updT f (by decide) F)⟩,I⟩
theorem kQ {x:Nat}(hb:b≤w.heap.size)(hx:x≤18446744073709551615):aQ aM 8 #[AI x] w (Gv w (ZO b (x))):=(Q4 hx).mono (Gv.imp (ZO.imp hb))
theorem oR {b1:Nat}{nb:Nat}(ha:Zr w b1 sa Aa na ca x)(la:na≤1099511627776)(hb:Zr w b2 sb Ab nb cb x)(lb:nb≤1099511627776):aQ aM 9 #[J sa Aa na ca,J sb Ab nb cb] w (Gv w (Is (By))):=by
 refine bP Tryz.func9 G (n:=19) G (bq G) (args:= [J sa Aa na ca,J sb Ab nb cb]) (bH [(0,J sa Aa na ca),(1,J sb Ab nb cb)] ⟨rfl,rfl,Fo⟩ (sr (bx (O sa Aa na ca) (Ext.refl w) G G G fun H _ f _ I q=>(d5 (O sb Ab nb cb) q f.lt G G G fun L _ h _ _ p E=>(mv 1 G (aA (sr (pf H 1 G (aP G G (bA cZ (f.ext p) G) (pf L 1 G (aP G G (bA cZ h G) (cl (vs:= [AT Aa na ca,AT Ab nb cb]) E (P5 (ha.ext (I.t p)).own la (hb.ext (I.t p)).own lb) G (by kernel_rfl) fun _ _ F o D=>?_))))))))))))
 obtain rfl:=F
 refine mv 1 G (aA (sr (mv 2 G (pf H 0 G (aP G G (bA dZ (f.ext (p.t o)) G) (pf L 0 G (aP G G (bA dZ (h.ext o) G) (pu (v:= .bool (sa==sb)) G (pu (v:= .bool (sa==sb)) G (mv 1 G (aA (bD (bC [.bool (sa==sb)] G ⟨rfl,Fo⟩ ?_)))))))))))))
 exact⟨_,rfl,(show Value.bool (sa==sb)= By by rw [ha.sgn,hb.sgn,beq_self_eq_true]),D⟩
theorem Q3 (w:a7):aQ aM 4 #[] w (Gv w (Is (By))):=by
 refine bP Tryz.func4 G (n:=25) G (bq G) (args:= []) (bH [] Fo (sr (mv 1 G (aA (sr (cl (vs:= [AI 12]) (Ext.refl w) ((kQ (Ext.refl w).size (by decide:12≤18446744073709551615)).mono (Gv.imp (ZO.zr (by decide:12≤18446744073709551615) (by decide:12≠0)))) G (by kernel_rfl) fun _ _ r3 _ ct=>?_))))))
 obtain⟨s4,A4,n4,c4,rfl,z4⟩:=r3
 refine cl (vs:= [AI 18]) ct ((kQ ct.size (by decide:18≤18446744073709551615)).mono (Gv.imp (ZO.zr (by decide:18≤18446744073709551615) (by decide:18≠0)))) G (by kernel_rfl) fun _ _ r7 e6 dx=>?_
 obtain⟨s8,A8,n8,c8,rfl,z8⟩:=r7
 refine eL G G (vs:= [J s4 A4 n4 c4,J s8 A8 n8 c8]) (by kernel_rfl) (by decide) (sG dx.size (z4.ext e6).zi (z4.le (a6 (kW (by decide:12≤18446744073709551615)) (by decide))) z8.zi (z8.le (a6 (kW (by decide:18≤18446744073709551615)) (by decide)))) ?_
 rintro _ _ ⟨gj,ge,bf,_,rfl,fi,fp⟩
 have fy:ln ((Int.gcd ((12:Nat):Int) ((18:Nat):Int):Int))≤1:=a6 (fK _ _) (Nat.max_le.2 ⟨a6 (kW (by decide:12≤18446744073709551615)) (by decide),a6 (kW (by decide:18≤18446744073709551615)) (by decide)⟩)
 have fe:ln (gj)≤2:=(bf.ln_u (kW (by decide:12≤18446744073709551615)) (kW (by decide:18≤18446744073709551615)))
 have fh:ln (ge)≤2:=(bf.ln_v (kW (by decide:12≤18446744073709551615)) (kW (by decide:18≤18446744073709551615)))
 refine eM ?_
 have fw:=dx.trans fp
 obtain⟨_,_,_,rfl,⟨aj,X,L,ai,rfl,cg⟩,⟨ab,M,U,H,rfl,bm⟩,⟨Z,W,V,Y,rfl,da⟩⟩:=fi
 refine mv 1 G (pu (v:= J aj X L ai) G (pu (v:= J ab M U H) G (pu (v:= J Z W V Y) G (al [F0,S0] fw (fun _=>by kernel_rfl) G fun _ _ aq dr bi fm=>(bF [F0,S0] fm aq.lt (fun _=>by kernel_rfl) G fun _ _ ba eg _ am fq=>(bF [F0,S0] fq ba.lt (fun _=>by kernel_rfl) G fun _ _ dn co _ ak gi=>?_))))))
 have p:=(aq.ext (am.t ak))
 refine so a8 p (O aj X L ai) gi dr G G G G fun _ df aa fz=>?_
 have q:=((ba.ext ak).vN aa)
 refine so a8 q (O ab M U H) fz eg G G G G fun _ cj ah fa=>?_
 have F:=((dn.vN aa).vN ah)
 refine so a8 F (O Z W V Y) fa co G G G G fun _ dz I o=>(aA (aH ?_))
 obtain⟨bg,bd,bh⟩:=JK bf
 refine cU bR 14 [] [Is (J aj X L ai),ZR w.heap.size (((6:Nat):Int)),Is (By),Is (By),Is (J ab M U H),ZR w.heap.size (((2:Nat):Int)),Is (By),Is (By),Is (By),Is (J Z W V Y),WR w.heap.size (1),ZR w.heap.size (-((1:Nat):Int)),Is (By),Is (By)] [[],[],[0,1],[2],[3],[3],[3,4,5],[3,6],[7],[8],[8],[8,10],[8,9,11],[8,12]] [[],[],[0,1],[0,1,2],[0,1,2,3],[0,1,2,3],[0,1,2,3,4,5],[0,1,2,3,4,5,6],[0,1,2,3,4,5,6,7],[0,1,2,3,4,5,6,7,8],[0,1,2,3,4,5,6,7,8],[0,1,2,3,4,5,6,7,8,10],[0,1,2,3,4,5,6,7,8,9,10,11],[0,1,2,3,4,5,6,7,8,9,10,11,12],[0,1,2,3,4,5,6,7,8,9,10,11,12,13]] rfl
  (aF G G (aC G G ?_) (aF G G (aC G G ?_) (aF G G (aC G G ?_) (aF G G (aC G G ?_) (aF G G (aC G G ?_) (aF G G (aC G G ?_) (aF G G (aC G G ?_) (aF G G (aC G G ?_) (aF G G (aC G G ?_) (aF G G (aC G G ?_) (aF G G (aC G G ?_) (aF G G (aC G G ?_) (aF G G (aC G G ?_) (aF G G (aC G G ?_) cE)))))))))))))) ?_
 ·exact fun _ gf=>aB (lo a8 (((df.vN ah).vN I).ext gf) (O aj X L ai) G G G (aE G aD G))
 ·intro _ fk
  have f:=o.trans fk
  refine aB (cl (vs:= [AI 6]) f ((kQ f.size (by decide:6≤18446744073709551615)).mono (Gv.imp (ZO.zr (by decide:6≤18446744073709551615) (by decide:6≠0)))) G (by kernel_rfl) fun _ _ fc fx h=>?_)
  obtain⟨_,_,_,_,rfl,fd⟩:=fc
  exact aE G fx ⟨_,_,_,_,rfl,fd⟩
 ·intro _ ch
  have f:=o.trans ch
  refine dk G G (aO G G fun _ _ gg _ fo=>?_)
  obtain⟨ft,ez,fg,gb,rfl,an⟩:=gg
  have an:=an.ext fo
  refine aB (cl (vs:= [J aj X L ai,J ft ez fg gb]) f (oR (((((cg.ext (bi.t (am.t ak))).updT p aa).updT q ah).updT F I).ext ch) (cg.le (aL fy G)) (an.cast (by first | exact bg.symm | exact bd.symm | exact bh.symm)) (an.le (a6 (kW (by decide:6≤18446744073709551615)) (by decide)))) G (by kernel_rfl) fun _ _ fj ga h=>?_)
  obtain rfl:=fj
  exact aE G ga rfl
 ·exact fun _ _=>dk G G (aB (mv 1 G (aE G aD G)))
 ·exact fun _ fb=>dk G G (aB (lo a8 ((cj.vN I).ext fb) (O ab M U H) G G G (aE G aD G)))
 ·intro _ fv
  have f:=o.trans fv
  refine dk G G (aB (cl (vs:= [AI 2]) f ((kQ f.size (by decide:2≤18446744073709551615)).mono (Gv.imp (ZO.zr (by decide:2≤18446744073709551615) (by decide:2≠0)))) G (by kernel_rfl) fun _ _ bp cm h=>?_))
  obtain⟨_,_,_,_,rfl,cn⟩:=bp
  exact aE G cm ⟨_,_,_,_,rfl,cn⟩
 ·intro _ bc
  have f:=o.trans bc
  refine dk G G (dk G G (aO G G fun _ _ ei _ dw=>?_))
  obtain⟨cp,ci,cz,bv,rfl,D⟩:=ei
  have D:=D.ext dw
  refine aB (cl (vs:= [J ab M U H,J cp ci cz bv]) f (oR (((((bm.ext (bi.t (am.t ak))).updT p aa).updT q ah).updT F I).ext bc) (bm.le (aL fe G)) (D.cast (by first | exact bg.symm | exact bd.symm | exact bh.symm)) (D.le (a6 (kW (by decide:2≤18446744073709551615)) (by decide)))) G (by kernel_rfl) fun _ _ dy dg h=>?_)
  obtain rfl:=dy
  exact aE G dg rfl
 ·exact fun _ _=>dk G G (dk G G (aB (pu (v:= By) G (aE G aD G))))
 ·exact fun _ _=>dk G G (aB (mv 1 G (aE G aD G)))
 ·exact fun _ dv=>dk G G (aB (lo a8 (dz.ext dv) (O Z W V Y) G G G (aE G aD G)))
 ·intro _ bu
  have f:=o.trans bu
  refine dk G G (aB (fA G G (k:=1) (e:=36) [AI 1] (fun _=>by kernel_rfl) fun _ _ ae=>?_))
  have ee:=O1.mk_ (x:=1) (b:=w.heap.size) ae f.size
  have ar:=ae.ext
  have h:=f.trans ar
  have dh:=pY ee (by decide:1≤18446744073709551615) (by decide:1≠0)
  have dc:=oL (by decide:1≤18446744073709551615) (by decide:1≠0)
  exact aE G ar ⟨_,_,_,rfl,dc,dh⟩
 ·intro _ _
  refine dk G G (aO G G fun _ _ dt _ ef=>?_)
  obtain⟨dd,cu,dm,rfl,ep,ag⟩:=dt
  have ag:=ag.ext ef
  refine aB (pu (v:= J true dd cu dm) G ?_)
  exact aE G aD ⟨_,_,_,_,rfl,(H8 (by decide:1≠0) ep ag)⟩
 ·intro _ ao
  have f:=o.trans ao
  refine dk G G (dk G G (aO G G fun _ _ bo _ de=>?_))
  obtain⟨ew,bz,ey,bt,rfl,E⟩:=bo
  have E:=E.ext de
  refine aB (cl (vs:= [J Z W V Y,J ew bz ey bt]) f (oR (((((da.ext (bi.t (am.t ak))).updT p aa).updT q ah).updT F I).ext ao) (da.le (aL fh G)) (E.cast (by first | exact bg.symm | exact bd.symm | exact bh.symm)) (E.le (a6 (show ln (-((1:Nat):Int))≤1 by rw [uH,NK];exact (Nat.le_of_eq (oL (by decide:1≤18446744073709551615) (by decide:1≠0)).symm)) (by decide)))) G (by kernel_rfl) fun _ _ bj el h=>?_)
  obtain rfl:=bj
  exact aE G el rfl
 ·exact fun _ _=>dk G G (dk G G (aB (pu (v:= By) G (aE G aD G))))
 ·intro _ du
  have f:=o.trans du
  refine dk G G (aO G G fun _ _ ck _ cx=>?_)
  obtain⟨_,_,_,_,rfl,av⟩:=ck
  have av:=av.ext cx
  refine dk G G (dk G G (dk G G (aO G G fun _ _ dl _ eh=>?_)))
  obtain⟨_,_,_,_,rfl,az⟩:=dl
  have az:=az.ext eh
  refine dk G G (dk G G (dk G G (dk G G (aO G G fun _ _ ej _ cy=>?_))))
  obtain⟨_,_,_,rfl,_,au⟩:=ej
  have au:=au.ext cy
  refine aO G G fun _ _ cv _ br=>?_
  obtain⟨_,_,_,_,rfl,aw⟩:=cv
  have aw:=aw.ext br
  refine dk G G (dk G G (aB (mv 1 G (aR (cF (aK (bD (bC [By] G ⟨rfl,Fo⟩ ?_))))))))
  exact⟨_,rfl,rfl,f⟩
end Go.Proofs.YtkkabncicmhjfaaGreat
