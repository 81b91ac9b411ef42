/- Parts Ref3b, Ref3c, Ref3d, Ref5, Pow5, Ref5b, Ref5c, Ref5e, Own0, Own, Ref4, Ref4t, Ref4r, joined. -/
import Derived.Test.YtkepckmdjncehaaGreatDoorJ3

open Go renaming Addr → a8, Calls → aQ, TypeId → aV, Value → aD, World → a0
open Int renaming emod_nonneg → s7
open List renaming drop_eq_getElem_cons → mH, drop_zero → gQ, getD_eq_getElem?_getD → bE, getElem?_eq_getElem → bR, getElem?_eq_none → gW, getElem?_map → iK, length_append → eN, length_eq_zero_iff → pV, map_cons → iJ, map_nil → j7, mem_append → mF, mem_singleton → mD, replicate → cJ
open Nat renaming add_assoc → j5, add_mul → dO, add_zero → eS, div_add_mod → lM, div_eq_of_lt → gV, div_le_self → eR, div_lt_iff_lt_mul → tZ, div_lt_self → jM, le_refl → aX, le_trans → aE, lt_of_le_of_lt → jL, lt_of_lt_of_le → cS, lt_of_not_le → nD, min_eq_left → g7, mod_eq_of_lt → fO, mod_lt → fV, mul_add → cZ, mul_add_div → nC, mul_add_mod → tW, mul_assoc → bY, mul_comm → cY, mul_le_mul → j3, mul_le_mul_left → fN, mul_le_mul_right → eC, mul_one → dK, mul_pos → iI, mul_right_comm → pR, mul_zero → gJ, pow_add → dX, pow_le_pow_right → eW, pow_pos → gC, pow_succ → dJ, sub_add_cancel → iH, zero_add → eQ, zero_le → bJ
open Option renaming getD_some → lJ, map_some → pP
open Option.some renaming injEq → eH
open Or renaming inr → bT
open Go.Proofs.Tryz renaming prog → aH
open Go.Value renaming int → d8
open Go.World.grownBy renaming refl → CF
namespace Go.Proofs.YtkepckmdjncehaaGreatDoor
set_option maxHeartbeats 4000000
variable {A A0 Aa Ab Ad C D:Option a8}{L bs ds es hi l l' l0 ld lq lr ms ms2 xs:List Nat}{N R X Y Z ac an b base c ca cap cap' cb cd d f i j k lb m n na q r rest u v:Nat}{P:Program}{T T':aV}{a w w0:a0}{p:a8}{s sa sb sd:Bool}{x y z:Int}{ys zs:List Int}
open Go.RowKit
def TK (g N q s:Nat)(l es:List Nat)(w:a0)(e:Ending)(w':a0):Prop:=
 e= .returned (.tuple #[])∧Upd g w w'∧∃l',Bk w' g 65 (l'.map bC)∧l'.length=N∧Wfb 4294967296 l'∧nb 4294967296 l'+q*nb 4294967296 es*4294967296^s=nb 4294967296 l
theorem uN {s e T d' c':Nat}(h:nb b l+q*nb b (es.take i)*b^s=Y+b^(s+i)*c)(hd0:l.getD (s+i) 0=d)(hT:T=c+q*e)(he:nb b (es.take (i+1))=nb b (es.take i)+b^i*e)(hk:s+i<l.length:=by omega)(hd:d'+T=d+b*c':=by omega):nb b (l.set (s+i) d')+q*nb b (es.take (i+1))*b^s=Y+b^(s+(i+1))*c':=by
 have h1:=sR b hk d'
 rw [hd0] at h1
 have o:q*nb b (es.take (i+1))*b^s=q*nb b (es.take i)*b^s+b^(s+i)*(q*e):=by
  rw [he,cZ,dO,dX]
  congr 1
  grind
 have f:b^(s+i)*(d'+T)=b^(s+i)*(d+b*c'):=by rw [hd]
 have p:b^(s+(i+1))*c'=b^(s+i)*(b*c'):=by rw [←j5,dJ,bY]
 rw [hT] at f
 simp only [cZ] at f
 rw [o,p]
 omega
theorem DJ (h:es.length≤i):nb b (es.take (i+1))=nb b (es.take i)+b^i*0:=by
 rw [List.take_of_length_le (by omega),List.take_of_length_le h];rfl
theorem DK {s:Nat}(hw:Wfb 4294967296 l')(hl:l'.length=N)(he:es.length=m)(hs:s+m≤N)(hi:s+i≤N)(hq:q*nb 4294967296 es*4294967296^s≤nb 4294967296 l)(h:nb 4294967296 l'+q*nb 4294967296 (es.take i)*4294967296^s=nb 4294967296 l+4294967296^(s+i)*c)(hend:s+i=N∨m≤i∧c=0):nb 4294967296 l'+q*nb 4294967296 es*4294967296^s=nb 4294967296 l:=by
 have f:m≤i:=by omega
 rw [List.take_of_length_le (by omega)] at h
 have e:c=0:=by
  rcases hend with h1 | h1
  ·have h2:=nS hw
   rw [hl] at h2
   rw [h1] at h
   refine Nat.eq_zero_of_not_pos fun o=>?_
   have p:4294967296^N*1≤4294967296^N*c:=fN _ o
   omega
  ·exact h1.2
 rw [e,gJ,eS] at h
 exact h
theorem vF {g s:Nat}(hb0:Bk w g 65 (l.map bC))(hl0:l.length=N)(hwl:Wfb 4294967296 l)(hy:Rd w D m cd es)(hwe:Wfb 4294967296 es)(hne:0<cd→∀a,D=some a→a.block≠g)(hqb:q<4294967296)(hq:q*nb 4294967296 es*4294967296^s≤nb 4294967296 l)(hN:N≤1099511627776:=by omega)(hs:s+m≤N:=by omega):aQ aH 242 #[i9 (some ⟨g,0,none⟩) N N,i9 D m cd,i5 q,a9 s] w (TK g N q s l es w):=by
 have L:=hy.len
 refine bL Tryz.func242 G (n:=84) G (bq G) (args:= [i9 (some ⟨g,0,none⟩) N N,i9 D m cd,i5 q,a9 s]) (bF [(0,i9 (some ⟨g,0,none⟩) N N),(1,i9 D m cd),(2,i5 q),(3,a9 s)] ⟨rfl,rfl,rfl,rfl,up⟩ (sr (mv 1 G (a1 (sr (mv 1 G (a1 (bI ?_))))))))
 refine cU (T:=a0×Nat×Nat×List Nat)
  (fun⟨wr,i,c,l'⟩=> [(0,i9 (some ⟨g,0,none⟩) N N),(1,i9 D m cd),(2,i5 q),(3,a9 s),(8,i5 c),(9,a9 i)])
  (fun⟨wr,i,c,l'⟩=>wr)
  (fun⟨wr,i,c,l'⟩=>(Upd g w wr)∧(s+i≤N)∧(c≤4294967296)∧(Bk wr g 65 (l'.map bC))∧(l'.length=N)∧(Wfb 4294967296 l')∧(nb 4294967296 l'+q*nb 4294967296 (es.take i)*4294967296^s=nb 4294967296 l+4294967296^(s+i)*c)∧(Rd wr D m cd es))
  (fun⟨wr,i,c,l'⟩=>N-(s+i))
  (⟨w,0,0,l⟩:a0×Nat×Nat×List Nat) ⟨Upd.refl g w,(by omega),(by decide),hb0,hl0,hwl,by simp [nb],hy⟩ G ⟨rfl,rfl,rfl,rfl,rfl,rfl,up⟩ ?_
 rintro⟨wr,i,c,l'⟩ ⟨o,hi,_,hb,hl,f,p,h⟩
 refine cR [(0,i9 (some ⟨g,0,none⟩) N N),(1,i9 D m cd),(2,i5 q),(3,a9 s),(8,i5 c),(9,a9 i)] wr G ⟨rfl,rfl,rfl,rfl,rfl,rfl,up⟩ (a7 (a7 ?_))
 by_cases aj:s+i<N
 ·by_cases ak:i<m
  ·refine a6 (mv 2 G (aR G G G ((s+i:Nat):Int) (bN (a:=s) (b:=i) G G) (mv 1 G (pu (v:= a9 N) G (aA G G G true (dG (a:=s+i) (b:=N) G G) (mv 3 G (pu (v:= a9 m) G (aA G G G true (dG (a:=i) (b:=m) G G) (mv 3 G (pu (v:= no) G (pu (v:= no) G (a1 (aY G ?_)))))))))))))
   refine aW (aC (a7 (bI (sr (mv 2 G (a1 (a7 (sr (mv 2 G (pu (v:= a9 m) G (aA G G G true (dG (a:=i) (b:=m) G G) (a1 (aY G ?_)))))))))))))
   have am:=iT (b:=4294967296) hwe i
   have hm:q*(es.getD i 0)≤4294967295*4294967295:=j3 (by omega) (by omega)
   refine a6 (mv 4 G ?_)
   obtain⟨p1,Y,ag,_⟩:=(h).at (i:=i) (by omega)
   refine bK G G G bS bM i G p1 Y (aL G G (cT d7 ag) (aR G G G ((q*(es.getD i 0):Nat):Int) (kW (a:=q) (b:=es.getD i 0) G G) (aR G G G ((c+(q*(es.getD i 0)):Nat):Int) (iD (a:=c) (b:=q*(es.getD i 0)) G G) (mv 1 G (a1 (sr (mv 1 G (aR G G G (((c+(q*(es.getD i 0)))%4294967296:Nat):Int) (kV (a:=c+(q*(es.getD i 0))) (b:=4294967296) G G) (mv 1 G (a1 (sr (mv 1 G (aR G G G (((c+(q*(es.getD i 0)))/4294967296:Nat):Int) (kB (a:=c+(q*(es.getD i 0))) (b:=4294967296) G G) ?_)))))))))))))
   refine mv 1 G (a1 (a7 ?_))
   have hd:=iT (b:=4294967296) f (s+i)
   by_cases U:l'.getD (s+i) 0<(c+(q*(es.getD i 0)))%4294967296
   ·refine a6 (mv 3 G (aR G G G ((s+i:Nat):Int) (bN (a:=s) (b:=i) G G) (bK G G G bS bM (s+i) G ⟨g,s+i,none⟩ (dN _ _) (aL G G (iA d7 hb (by rw [hl];omega)) (mv 1 G (aA G G G true (dG (a:=l'.getD (s+i) 0) (b:=(c+(q*(es.getD i 0)))%4294967296) G G) (a1 (aY G (sr (mv 3 G (aR G G G ((s+i:Nat):Int) (bN (a:=s) (b:=i) G G) (mv 3 G (aR G G G ((s+i:Nat):Int) (bN (a:=s) (b:=i) G G) ?_)))))))))))))
    refine bK G G G bS bM (s+i) G ⟨g,s+i,none⟩ (dN _ _) (aL G G (iA d7 hb (by rw [hl];omega)) (aR G G G (((l'.getD (s+i) 0)+4294967296:Nat):Int) (iD (a:=l'.getD (s+i) 0) (b:=4294967296) G G) (mv 1 G (aR G G G ((((l'.getD (s+i) 0)+4294967296)-((c+(q*(es.getD i 0)))%4294967296):Nat):Int) (tJ (a:=(l'.getD (s+i) 0)+4294967296) (b:=(c+(q*(es.getD i 0)))%4294967296) G G) (bK G G G bS bM (s+i) G ⟨g,s+i,none⟩ (dN _ _) ?_)))))
    have ab:=hb
    refine d6 G G G bM G ab (gL (by rw [hl];omega)) G ((l'.set (s+i) (((l'.getD (s+i) 0)+4294967296)-((c+(q*(es.getD i 0)))%4294967296))).map bC) (dP _ _ _) fun v2 Z u5 _=>(a1 (a6 (mv 1 G (aR G G G ((((c+(q*(es.getD i 0)))/4294967296)+1:Nat):Int) (iD (a:=(c+(q*(es.getD i 0)))/4294967296) (b:=1) G G) (mv 1 G (aS (bG (aC (a6 (mv 1 G (aR G G G ((i+1:Nat):Int) (bN (a:=i) (b:=1) G G) (mv 1 G (aS ?_)))))))))))))
    refine bW (⟨v2,i+1,_,_⟩:a0×Nat×Nat×List Nat) ⟨o.trans u5,(by omega),(by omega),Z,(iR (l:=l') (hl)),iF f _,uN p G G (hJ _ _ _ (by omega)),(Rd.updL h u5 hne)⟩ (show N-(s+(i+1))<N-(s+i) by omega) G ⟨rfl,rfl,rfl,rfl,rfl,rfl,up⟩
   ·refine a6 (mv 3 G (aR G G G ((s+i:Nat):Int) (bN (a:=s) (b:=i) G G) (bK G G G bS bM (s+i) G ⟨g,s+i,none⟩ (dN _ _) (aL G G (iA d7 hb (by rw [hl];omega)) (mv 1 G (aA G G G false (cW (a:=l'.getD (s+i) 0) (b:=(c+(q*(es.getD i 0)))%4294967296) G G) (a1 (aN G (a6 (mv 3 G (aR G G G ((s+i:Nat):Int) (bN (a:=s) (b:=i) G G) (mv 3 G (aR G G G ((s+i:Nat):Int) (bN (a:=s) (b:=i) G G) ?_)))))))))))))
    refine bK G G G bS bM (s+i) G ⟨g,s+i,none⟩ (dN _ _) (aL G G (iA d7 hb (by rw [hl];omega)) (mv 1 G (aR G G G (((l'.getD (s+i) 0)-((c+(q*(es.getD i 0)))%4294967296):Nat):Int) (tJ (a:=l'.getD (s+i) 0) (b:=(c+(q*(es.getD i 0)))%4294967296) G G) (bK G G G bS bM (s+i) G ⟨g,s+i,none⟩ (dN _ _) ?_))))
    have W:=hb
    refine d6 G G G bM G W (gL (by rw [hl];omega)) G ((l'.set (s+i) ((l'.getD (s+i) 0)-((c+(q*(es.getD i 0)))%4294967296))).map bC) (dP _ _ _) fun v7 ae H _=>(aS (bG (aC (a6 (mv 1 G (aR G G G ((i+1:Nat):Int) (bN (a:=i) (b:=1) G G) (mv 1 G (aS (bW (⟨v7,i+1,_,_⟩:a0×Nat×Nat×List Nat) ⟨o.trans H,(by omega),(by omega),ae,(iR (l:=l') (hl)),iF f _,uN p G G (hJ _ _ _ (by omega)),(Rd.updL h H hne)⟩ (show N-(s+(i+1))<N-(s+i) by omega) G ⟨rfl,rfl,rfl,rfl,rfl,rfl,up⟩)))))))))
  ·by_cases ao:c>0
   ·refine a6 (mv 2 G (aR G G G ((s+i:Nat):Int) (bN (a:=s) (b:=i) G G) (mv 1 G (pu (v:= a9 N) G (aA G G G true (dG (a:=s+i) (b:=N) G G) (mv 3 G (pu (v:= a9 m) G (aA G G G false (cW (a:=i) (b:=m) G G) (mv 2 G (aA G G G true (fB (a:=c) (b:=0) G G) (pu (v:= no) G (pu (v:= no) G (aS ?_)))))))))))))
    refine aC (aY G (aW (aC (a7 (bI (sr (mv 2 G (a1 (a7 (sr (mv 2 G (pu (v:= a9 m) G (aA G G G false (cW (a:=i) (b:=m) G G) ?_)))))))))))))
    refine a1 (aN G (aW (aC (sr (mv 1 G (aR G G G ((c%4294967296:Nat):Int) (kV (a:=c) (b:=4294967296) G G) (mv 1 G (a1 (sr (mv 1 G (aR G G G ((c/4294967296:Nat):Int) (kB (a:=c) (b:=4294967296) G G) (mv 1 G (aS ?_)))))))))))))
    refine aC (a7 ?_)
    have hd:=iT (b:=4294967296) f (s+i)
    by_cases U:l'.getD (s+i) 0<c%4294967296
    ·refine a6 (mv 3 G (aR G G G ((s+i:Nat):Int) (bN (a:=s) (b:=i) G G) (bK G G G bS bM (s+i) G ⟨g,s+i,none⟩ (dN _ _) (aL G G (iA d7 hb (by rw [hl];omega)) (mv 1 G (aA G G G true (dG (a:=l'.getD (s+i) 0) (b:=c%4294967296) G G) (a1 (aY G (sr (mv 3 G (aR G G G ((s+i:Nat):Int) (bN (a:=s) (b:=i) G G) (mv 3 G (aR G G G ((s+i:Nat):Int) (bN (a:=s) (b:=i) G G) ?_)))))))))))))
     refine bK G G G bS bM (s+i) G ⟨g,s+i,none⟩ (dN _ _) (aL G G (iA d7 hb (by rw [hl];omega)) (aR G G G (((l'.getD (s+i) 0)+4294967296:Nat):Int) (iD (a:=l'.getD (s+i) 0) (b:=4294967296) G G) (mv 1 G (aR G G G ((((l'.getD (s+i) 0)+4294967296)-(c%4294967296):Nat):Int) (tJ (a:=(l'.getD (s+i) 0)+4294967296) (b:=c%4294967296) G G) (bK G G G bS bM (s+i) G ⟨g,s+i,none⟩ (dN _ _) ?_)))))
     have E:=hb
     refine d6 G G G bM G E (gL (by rw [hl];omega)) G ((l'.set (s+i) (((l'.getD (s+i) 0)+4294967296)-(c%4294967296))).map bC) (dP _ _ _) fun X V M _=>(a1 (a6 (mv 1 G (aR G G G (((c/4294967296)+1:Nat):Int) (iD (a:=c/4294967296) (b:=1) G G) (mv 1 G (aS (bG (aC (a6 (mv 1 G (aR G G G ((i+1:Nat):Int) (bN (a:=i) (b:=1) G G) (mv 1 G (aS ?_)))))))))))))
     refine bW (⟨X,i+1,_,_⟩:a0×Nat×Nat×List Nat) ⟨o.trans M,(by omega),(by omega),V,(iR (l:=l') (hl)),iF f _,uN p G (T:=c) (e:=0) (by simp) (DJ (by omega)),(Rd.updL h M hne)⟩ (show N-(s+(i+1))<N-(s+i) by omega) G ⟨rfl,rfl,rfl,rfl,rfl,rfl,up⟩
    ·refine a6 (mv 3 G (aR G G G ((s+i:Nat):Int) (bN (a:=s) (b:=i) G G) (bK G G G bS bM (s+i) G ⟨g,s+i,none⟩ (dN _ _) (aL G G (iA d7 hb (by rw [hl];omega)) (mv 1 G (aA G G G false (cW (a:=l'.getD (s+i) 0) (b:=c%4294967296) G G) (a1 (aN G (a6 (mv 3 G (aR G G G ((s+i:Nat):Int) (bN (a:=s) (b:=i) G G) (mv 3 G (aR G G G ((s+i:Nat):Int) (bN (a:=s) (b:=i) G G) ?_)))))))))))))
     refine bK G G G bS bM (s+i) G ⟨g,s+i,none⟩ (dN _ _) (aL G G (iA d7 hb (by rw [hl];omega)) (mv 1 G (aR G G G (((l'.getD (s+i) 0)-(c%4294967296):Nat):Int) (tJ (a:=l'.getD (s+i) 0) (b:=c%4294967296) G G) (bK G G G bS bM (s+i) G ⟨g,s+i,none⟩ (dN _ _) ?_))))
     have I:=hb
     refine d6 G G G bM G I (gL (by rw [hl];omega)) G ((l'.set (s+i) ((l'.getD (s+i) 0)-(c%4294967296))).map bC) (dP _ _ _) fun aa r F _=>(aS (bG (aC (a6 (mv 1 G (aR G G G ((i+1:Nat):Int) (bN (a:=i) (b:=1) G G) (mv 1 G (aS (bW (⟨aa,i+1,_,_⟩:a0×Nat×Nat×List Nat) ⟨o.trans F,(by omega),(by omega),r,(iR (l:=l') (hl)),iF f _,uN p G (T:=c) (e:=0) (by simp) (DJ (by omega)),(Rd.updL h F hne)⟩ (show N-(s+(i+1))<N-(s+i) by omega) G ⟨rfl,rfl,rfl,rfl,rfl,rfl,up⟩)))))))))
   ·refine a6 (mv 2 G (aR G G G ((s+i:Nat):Int) (bN (a:=s) (b:=i) G G) (mv 1 G (pu (v:= a9 N) G (aA G G G true (dG (a:=s+i) (b:=N) G G) (mv 3 G (pu (v:= a9 m) G (aA G G G false (cW (a:=i) (b:=m) G G) (mv 2 G (aA G G G false (fC (a:=c) (b:=0) G G) (pu (v:= t9) G (pu (v:= t9) G (aS ?_)))))))))))))
    refine aC (aN G (cN (cI (cL (cM (nZ [] G up ?_))))))
    exact⟨rfl,o,l',hb,hl,f,DK f hl L hs hi hq p (bT ⟨by omega,by omega⟩)⟩
 ·refine a6 (mv 2 G (aR G G G ((s+i:Nat):Int) (bN (a:=s) (b:=i) G G) (mv 1 G (pu (v:= a9 N) G (aA G G G false (cW (a:=s+i) (b:=N) G G) (mv 9 G (pu (v:= t9) G (a1 (aN G (cN (cI (cL (cM ?_)))))))))))))
  refine nZ [] G up ?_
  exact⟨rfl,o,l',hb,hl,f,DK f hl L hs hi hq p (Or.inl (by omega))⟩
theorem kJ (h:k<xs.length)(b:Nat):nb b (xs.drop k)=xs.getD k 0+b*nb b (xs.drop (k+1)):=by
 rw [mH h,kG,bE,bR h];rfl
section
set_option linter.unusedSectionVars false
variable {xs es:List Nat}{n m s:Nat}(hx:xs.length=n) (he:es.length=m) (hs:s+m≤n) (hwx:Wfb 4294967296 xs) (hwe:Wfb 4294967296 es)
include hx he hs hwx hwe
theorem H9 (hbig:nb 4294967296 xs<4294967296^(s+m+1))(h0:s+m<n→xs.getD (s+m) 0=0):nb 4294967296 (xs.drop (s+m))=nb 4294967296 (es.drop m):=by
 rw [List.drop_of_length_le (l:=es) (by omega),vM]
 by_cases e:s+m<n
 ·have h1:=l9 4294967296 xs (s+m)
  have h2:=kJ (xs:=xs) (k:=s+m) (by omega) 4294967296
  rw [h0 e,eQ] at h2
  rw [h2] at h1⊢
  refine Nat.mul_eq_zero.2 (bT (Nat.eq_zero_of_not_pos fun f=>?_))
  rw [dJ,←bY] at*
  have h:4294967296^(s+m)*4294967296*1≤4294967296^(s+m)*4294967296*nb 4294967296 (xs.drop (s+m+1)):=fN _ f
  omega
 ·rw [List.drop_of_length_le (by omega),vM]
theorem SO (h0:s+m<n)(hp:0<xs.getD (s+m) 0):nb 4294967296 es*4294967296^s≤nb 4294967296 xs:=by
 have h1:=l9 4294967296 xs (s+m)
 have h2:=kJ (xs:=xs) (k:=s+m) (by omega) 4294967296
 have e:=nS hwe
 rw [he] at e
 have f:nb 4294967296 es*4294967296^s≤4294967296^m*4294967296^s:=eC _ (Nat.le_of_lt e)
 rw [←dX,Nat.add_comm m s] at f
 have h:4294967296^(s+m)*1≤4294967296^(s+m)*nb 4294967296 (xs.drop (s+m)):=fN _ (by omega)
 omega
theorem HA (hj:j<m)(h:nb 4294967296 (xs.drop (s+(j+1)))=nb 4294967296 (es.drop (j+1)))(hd:xs.getD (s+j) 0<es.getD j 0):¬nb 4294967296 es*4294967296^s≤nb 4294967296 xs:=by
 have h2:=kJ (xs:=xs) (k:=s+j) (by omega) 4294967296
 have r:=kJ (xs:=es) (k:=j) (by omega) 4294967296
 rw [j5,h] at h2
 have o:=l9 4294967296 xs (s+j)
 have f:=l9 4294967296 es j
 have p:=qR hwx (s+j)
 have e:4294967296^(s+j)*(nb 4294967296 (xs.drop (s+j))+1)≤4294967296^(s+j)*nb 4294967296 (es.drop j):=fN _ (by omega)
 have q:4294967296^(s+j)*nb 4294967296 (es.drop j)≤nb 4294967296 es*4294967296^s:=by
  rw [f,dO,dX,bY,cY (4294967296^s)]
  exact Nat.le_add_left _ _
 rw [cZ] at e
 omega
theorem HC (hj:j<m)(h:nb 4294967296 (xs.drop (s+(j+1)))=nb 4294967296 (es.drop (j+1)))(hd:xs.getD (s+j) 0>es.getD j 0):nb 4294967296 es*4294967296^s≤nb 4294967296 xs:=by
 have h2:=kJ (xs:=xs) (k:=s+j) (by omega) 4294967296
 have E:=kJ (xs:=es) (k:=j) (by omega) 4294967296
 rw [j5,h] at h2
 have D:=l9 4294967296 xs (s+j)
 have r:=l9 4294967296 es j
 have p:=qR hwe j
 have f:4294967296^j*(nb 4294967296 (es.drop j)+1)≤4294967296^j*nb 4294967296 (xs.drop (s+j)):=fN _ (by omega)
 rw [cZ] at f
 have o:nb 4294967296 es≤4294967296^j*nb 4294967296 (xs.drop (s+j)):=by omega
 have q:nb 4294967296 es*4294967296^s≤4294967296^j*nb 4294967296 (xs.drop (s+j))*4294967296^s:=eC _ o
 have e:4294967296^j*nb 4294967296 (xs.drop (s+j))*4294967296^s=4294967296^(s+j)*nb 4294967296 (xs.drop (s+j)):=by
  rw [dX,pR,cY (4294967296^j)]
 omega
theorem HD (h:nb 4294967296 (xs.drop (s+0))=nb 4294967296 (es.drop 0)):nb 4294967296 es*4294967296^s≤nb 4294967296 xs:=by
 have e:=l9 4294967296 xs s
 rw [eS,gQ] at h
 rw [e,h,cY]
 exact Nat.le_add_left _ _
theorem H8 (hj:j<m)(h:nb 4294967296 (xs.drop (s+(j+1)))=nb 4294967296 (es.drop (j+1)))(hd:xs.getD (s+j) 0=es.getD j 0):nb 4294967296 (xs.drop (s+j))=nb 4294967296 (es.drop j):=by
 rw [kJ (xs:=xs) (k:=s+j) (by omega),kJ (xs:=es) (k:=j) (by omega),j5,h,hd]
end
theorem PG {s:Nat}(hx:Rd w A n cap xs)(hln:n≤1099511627776)(hy:Rd w D m cd es)(hwx:Wfb 4294967296 xs)(hwe:Wfb 4294967296 es)(hs:s+m≤n)(hbig:nb 4294967296 xs<4294967296^(s+m+1)):aQ aH 260 #[i9 A n cap,i9 D m cd,a9 s] w (Gv w (Is (.bool (decide (nb 4294967296 es*4294967296^s≤nb 4294967296 xs))))):=by
 have e:=hx.len
 have cx:=hx.rv.le
 have f:=hy.len
 refine bL Tryz.func260 G (n:=53) G (bq G) (args:= [i9 A n cap,i9 D m cd,a9 s]) (bF [(0,i9 A n cap),(1,i9 D m cd),(2,a9 s)] ⟨rfl,rfl,rfl,up⟩ (sr (mv 1 G (a1 (sr (mv 2 G (pu (v:= a9 m) G (aR G G G ((s+m:Nat):Int) (bN (a:=s) (b:=m) G G) (mv 1 G (a1 (a7 (a7 ?_))))))))))))
 by_cases ab:s+m<n
 ·by_cases bj:xs.getD (s+m) 0>0
  ·refine a6 (mv 2 G (pu (v:= a9 n) G (aA G G G true (dG (a:=s+m) (b:=n) G G) (mv 3 G ?_))))
   obtain⟨p1,cg,cj,_⟩:=(hx).at (i:=s+m) (by omega)
   refine bK G G G bS bM (s+m) G p1 cg (aL G G (cT d7 cj) (aA G G G true (fB (a:=xs.getD (s+m) 0) (b:=0) G G) (pu (v:= no) G (a1 (aY G (sr (mv 1 G (a1 (aU (bU (aT [no] G ⟨rfl,up⟩ ?_)))))))))))
   exact⟨_,rfl,(show Value.bool true=_ by rw [decide_eq_true (SO e f hs hwx hwe ab bj)]),(Ext.refl w)⟩
  ·have ba:=H9 e f hs hwx hwe hbig (fun _=>by omega)
   refine a6 (mv 2 G (pu (v:= a9 n) G (aA G G G true (dG (a:=s+m) (b:=n) G G) (mv 3 G ?_))))
   obtain⟨p2,cm,co,_⟩:=(hx).at (i:=s+m) (by omega)
   refine bK G G G bS bM (s+m) G p2 cm (aL G G (cT d7 co) (aA G G G false (fC (a:=xs.getD (s+m) 0) (b:=0) G G) (pu (v:= t9) G (a1 (aN G (aW (aC (a7 (sr (mv 1 G (pu (v:= a9 m) G (aR G G G (((m:Nat):Int)-1) (fH G) (mv 1 G ?_)))))))))))))
   refine a1 (bI ?_)
   refine cU (T:=a0×Nat×Int)
    (fun⟨wr,k,ii⟩=> [(0,i9 A n cap),(1,i9 D m cd),(2,a9 s),(8,a9 ii)])
    (fun⟨wr,k,ii⟩=>wr)
    (fun⟨wr,k,ii⟩=>(Ext w wr)∧(k≤m)∧(ii=(k:Int)-1)∧(nb 4294967296 (xs.drop (s+k))=nb 4294967296 (es.drop k))∧(Rd wr A n cap xs)∧(Rd wr D m cd es))
    (fun⟨wr,k,ii⟩=>k)
    (⟨w,m,_⟩:a0×Nat×Int) ⟨(Ext.refl w),aX _,rfl,ba,hx,hy⟩ G ⟨rfl,rfl,rfl,rfl,up⟩ ?_
   rintro⟨wr,k,ii⟩ ⟨E,hk,ck,o,F,H⟩
   refine cR [(0,i9 A n cap),(1,i9 D m cd),(2,a9 s),(8,a9 ii)] wr G ⟨rfl,rfl,rfl,rfl,up⟩ (a7 (a7 ?_))
   by_cases ci:0<k
   ·obtain⟨j,rfl⟩:∃j,k=j+1:=⟨k-1,by omega⟩
    obtain rfl:ii=(j:Int):=by omega
    refine a6 (mv 1 G (aA G G G true (fY (a:=j) (b:=0) G G) (a1 (aY G (aW (aC (a7 (bI (a7 ?_)))))))))
    by_cases ch:xs.getD (s+j) 0≠es.getD j 0
    ·refine bF [(0,i9 A n cap),(1,i9 D m cd),(2,a9 s),(8,a9 j),(27,a9 j),(28,no)] ⟨rfl,rfl,rfl,rfl,rfl,rfl,up⟩ ?_
     obtain⟨v3,o,e4⟩:∃v,v=wr.drew∧Ext wr v:=⟨_,rfl,aK.drew⟩
     have r:=E.trans e4
     obtain⟨L,az,aj,_⟩:=((F.ext e4)).at (i:=s+j) (by omega)
     obtain⟨M,bd,aw,_⟩:=((H.ext e4)).at (i:=j) (by omega)
     refine gH cQ (w:=v3) [i9 A n cap,a9 s,a9 j,a9 ((s+j:Nat):Int),.pointer (some L),i5 ((xs.getD (s+j) 0:Nat):Int),i9 D m cd,a9 j,.pointer (some M),i5 ((es.getD j 0:Nat):Int),no] [v3] [] [[],[],[],[1,2],[0,3],[4],[],[],[6,7],[8],[5,9]] [[],[],[],[1,2],[0,1,2,3],[0,1,2,3,4],[],[],[6,7],[6,7,8],[0,1,2,3,4,5,6,7,8,9]] [(0,0),(1,0),(2,0),(3,0),(4,0),(5,0),(6,0),(7,0),(8,0),(9,0),(10,0)] G o ?_ ?_
     ·refine aZ _ G G G G G (bO G) (aZ _ G G G G G (bO G) (aZ _ G G G G G (bO G) (aZ _ G G G G G (kQ G G ((s+j:Nat):Int) (bN (a:=s) (b:=j) G G)) (aZ _ G G G G G (gZ G G bS bM (s+j) G L az) (aZ _ G G G G G (cH G (cT d7 aj)) (aZ _ G G G G G (bO G) (aZ _ G G G G G (bO G) (aZ _ G G G G G (gZ G G bS bM j G M bd) (aZ _ G G G G G (cH G (cT d7 aw)) (aZ _ G G G G G (nM G G true (x9 (a:=xs.getD (s+j) 0) (b:=es.getD j 0) G G)) ?_))))))))))
      exact gG
     clear o
     refine fX [(0,i9 A n cap),(1,i9 D m cd),(2,a9 s),(8,a9 j),(27,a9 j),(28,no),(31,i9 A n cap),(32,a9 s),(33,a9 j),(34,a9 ((s+j:Nat):Int)),(35,.pointer (some L)),(36,i5 ((xs.getD (s+j) 0:Nat):Int)),(37,i9 D m cd),(38,a9 j),(39,.pointer (some M)),(40,i5 ((es.getD j 0:Nat):Int)),(41,no)] ⟨rfl,rfl,rfl,rfl,rfl,rfl,rfl,rfl,rfl,rfl,rfl,rfl,rfl,rfl,rfl,rfl,rfl,up⟩ (aC (aY G (a7 ?_)))
     by_cases ar:xs.getD (s+j) 0>es.getD j 0
     ·refine bF [(0,i9 A n cap),(1,i9 D m cd),(2,a9 s),(8,a9 j),(27,a9 j),(28,no),(31,i9 A n cap),(32,a9 s),(33,a9 j),(34,a9 ((s+j:Nat):Int)),(35,.pointer (some L)),(36,i5 ((xs.getD (s+j) 0:Nat):Int)),(37,i9 D m cd),(38,a9 j),(39,.pointer (some M)),(40,i5 ((es.getD j 0:Nat):Int)),(41,no)] ⟨rfl,rfl,rfl,rfl,rfl,rfl,rfl,rfl,rfl,rfl,rfl,rfl,rfl,rfl,rfl,rfl,rfl,up⟩ ?_
      obtain⟨v7,o,e8⟩:∃v,v=v3.drew∧Ext v3 v:=⟨_,rfl,aK.drew⟩
      have I:=r.trans e8
      refine gH cQ (w:=v7) [i9 A n cap,a9 s,a9 j,a9 ((s+j:Nat):Int),.pointer (some L),i5 ((xs.getD (s+j) 0:Nat):Int),i9 D m cd,a9 j,.pointer (some M),i5 ((es.getD j 0:Nat):Int),no,no] [v7] [] [[],[],[],[1,2],[0,3],[4],[],[],[6,7],[8],[5,9],[10]] [[],[],[],[1,2],[0,1,2,3],[0,1,2,3,4],[],[],[6,7],[6,7,8],[0,1,2,3,4,5,6,7,8,9],[0,1,2,3,4,5,6,7,8,9,10]] [(0,0),(1,0),(2,0),(3,0),(4,0),(5,0),(6,0),(7,0),(8,0),(9,0),(10,0),(11,0)] G o ?_ ?_
      ·refine aZ _ G G G G G (bO G) (aZ _ G G G G G (bO G) (aZ _ G G G G G (bO G) (aZ _ G G G G G (kQ G G ((s+j:Nat):Int) (bN (a:=s) (b:=j) G G)) (aZ _ G G G G G (gZ G G bS bM (s+j) G L az) (aZ _ G G G G G (cH G (cT d7 (e8.cell aj))) (aZ _ G G G G G (bO G) (aZ _ G G G G G (bO G) (aZ _ G G G G G (gZ G G bS bM j G M bd) (aZ _ G G G G G (cH G (cT d7 (e8.cell aw))) (aZ _ G G G G G (nM G G true (fB (a:=xs.getD (s+j) 0) (b:=es.getD j 0) G G)) (aZ _ G G G G G (i7 G) ?_)))))))))))
       exact gG
      clear o
      refine fX [(0,i9 A n cap),(1,i9 D m cd),(2,a9 s),(8,a9 j),(27,a9 j),(28,no),(31,i9 A n cap),(32,a9 s),(33,a9 j),(34,a9 ((s+j:Nat):Int)),(35,.pointer (some L)),(36,i5 ((xs.getD (s+j) 0:Nat):Int)),(37,i9 D m cd),(38,a9 j),(39,.pointer (some M)),(40,i5 ((es.getD j 0:Nat):Int)),(41,no),(42,i9 A n cap),(43,a9 s),(44,a9 j),(45,a9 ((s+j:Nat):Int)),(46,.pointer (some L)),(47,i5 ((xs.getD (s+j) 0:Nat):Int)),(48,i9 D m cd),(49,a9 j),(50,.pointer (some M)),(51,i5 ((es.getD j 0:Nat):Int)),(52,no),(6,no)] ⟨rfl,rfl,rfl,rfl,rfl,rfl,rfl,rfl,rfl,rfl,rfl,rfl,rfl,rfl,rfl,rfl,rfl,rfl,rfl,rfl,rfl,rfl,rfl,rfl,rfl,rfl,rfl,rfl,rfl,up⟩ (aC (aU (gM (bU (nY (gM (bU (aT [no] G ⟨rfl,up⟩ ?_))))))))
      exact⟨_,rfl,(show Value.bool true=_ by rw [decide_eq_true (HC e f hs hwx hwe (by omega) o ar)]),I⟩
     ·refine bF [(0,i9 A n cap),(1,i9 D m cd),(2,a9 s),(8,a9 j),(27,a9 j),(28,no),(31,i9 A n cap),(32,a9 s),(33,a9 j),(34,a9 ((s+j:Nat):Int)),(35,.pointer (some L)),(36,i5 ((xs.getD (s+j) 0:Nat):Int)),(37,i9 D m cd),(38,a9 j),(39,.pointer (some M)),(40,i5 ((es.getD j 0:Nat):Int)),(41,no)] ⟨rfl,rfl,rfl,rfl,rfl,rfl,rfl,rfl,rfl,rfl,rfl,rfl,rfl,rfl,rfl,rfl,rfl,up⟩ ?_
      obtain⟨v9,o,ai⟩:∃v,v=v3.drew∧Ext v3 v:=⟨_,rfl,aK.drew⟩
      have I:=r.trans ai
      refine gH cQ (w:=v9) [i9 A n cap,a9 s,a9 j,a9 ((s+j:Nat):Int),.pointer (some L),i5 ((xs.getD (s+j) 0:Nat):Int),i9 D m cd,a9 j,.pointer (some M),i5 ((es.getD j 0:Nat):Int),F0,F0] [v9] [] [[],[],[],[1,2],[0,3],[4],[],[],[6,7],[8],[5,9],[10]] [[],[],[],[1,2],[0,1,2,3],[0,1,2,3,4],[],[],[6,7],[6,7,8],[0,1,2,3,4,5,6,7,8,9],[0,1,2,3,4,5,6,7,8,9,10]] [(0,0),(1,0),(2,0),(3,0),(4,0),(5,0),(6,0),(7,0),(8,0),(9,0),(10,0),(11,0)] G o ?_ ?_
      ·refine aZ _ G G G G G (bO G) (aZ _ G G G G G (bO G) (aZ _ G G G G G (bO G) (aZ _ G G G G G (kQ G G ((s+j:Nat):Int) (bN (a:=s) (b:=j) G G)) (aZ _ G G G G G (gZ G G bS bM (s+j) G L az) (aZ _ G G G G G (cH G (cT d7 (ai.cell aj))) (aZ _ G G G G G (bO G) (aZ _ G G G G G (bO G) (aZ _ G G G G G (gZ G G bS bM j G M bd) (aZ _ G G G G G (cH G (cT d7 (ai.cell aw))) (aZ _ G G G G G (nM G G false (fC (a:=xs.getD (s+j) 0) (b:=es.getD j 0) G G)) (aZ _ G G G G G (i7 G) ?_)))))))))))
       exact gG
      clear o
      refine fX [(0,i9 A n cap),(1,i9 D m cd),(2,a9 s),(8,a9 j),(27,a9 j),(28,no),(31,i9 A n cap),(32,a9 s),(33,a9 j),(34,a9 ((s+j:Nat):Int)),(35,.pointer (some L)),(36,i5 ((xs.getD (s+j) 0:Nat):Int)),(37,i9 D m cd),(38,a9 j),(39,.pointer (some M)),(40,i5 ((es.getD j 0:Nat):Int)),(41,no),(42,i9 A n cap),(43,a9 s),(44,a9 j),(45,a9 ((s+j:Nat):Int)),(46,.pointer (some L)),(47,i5 ((xs.getD (s+j) 0:Nat):Int)),(48,i9 D m cd),(49,a9 j),(50,.pointer (some M)),(51,i5 ((es.getD j 0:Nat):Int)),(52,t9),(6,t9)] ⟨rfl,rfl,rfl,rfl,rfl,rfl,rfl,rfl,rfl,rfl,rfl,rfl,rfl,rfl,rfl,rfl,rfl,rfl,rfl,rfl,rfl,rfl,rfl,rfl,rfl,rfl,rfl,rfl,rfl,up⟩ (aC (aU (gM (bU (nY (gM (bU (aT [F0] G ⟨rfl,up⟩ ?_))))))))
      exact⟨_,rfl,(show Value.bool false=_ by rw [decide_eq_false (HA e f hs hwx hwe (by omega) o (by omega))]),I⟩
    ·refine bF [(0,i9 A n cap),(1,i9 D m cd),(2,a9 s),(8,a9 j),(27,a9 j),(28,no)] ⟨rfl,rfl,rfl,rfl,rfl,rfl,up⟩ ?_
     obtain⟨av,o,X⟩:∃v,v=wr.drew∧Ext wr v:=⟨_,rfl,aK.drew⟩
     have r:=E.trans X
     obtain⟨am,bm,bw,_⟩:=((F.ext X)).at (i:=s+j) (by omega)
     obtain⟨ah,bg,bt,_⟩:=((H.ext X)).at (i:=j) (by omega)
     refine gH cQ (w:=av) [i9 A n cap,a9 s,a9 j,a9 ((s+j:Nat):Int),.pointer (some am),i5 ((xs.getD (s+j) 0:Nat):Int),i9 D m cd,a9 j,.pointer (some ah),i5 ((es.getD j 0:Nat):Int),F0] [av] [] [[],[],[],[1,2],[0,3],[4],[],[],[6,7],[8],[5,9]] [[],[],[],[1,2],[0,1,2,3],[0,1,2,3,4],[],[],[6,7],[6,7,8],[0,1,2,3,4,5,6,7,8,9]] [(0,0),(1,0),(2,0),(3,0),(4,0),(5,0),(6,0),(7,0),(8,0),(9,0),(10,0)] G o ?_ ?_
     ·refine aZ _ G G G G G (bO G) (aZ _ G G G G G (bO G) (aZ _ G G G G G (bO G) (aZ _ G G G G G (kQ G G ((s+j:Nat):Int) (bN (a:=s) (b:=j) G G)) (aZ _ G G G G G (gZ G G bS bM (s+j) G am bm) (aZ _ G G G G G (cH G (cT d7 bw)) (aZ _ G G G G G (bO G) (aZ _ G G G G G (bO G) (aZ _ G G G G G (gZ G G bS bM j G ah bg) (aZ _ G G G G G (cH G (cT d7 bt)) (aZ _ G G G G G (nM G G false (k8 (a:=xs.getD (s+j) 0) (b:=es.getD j 0) G G)) ?_))))))))))
      exact gG
     clear o
     refine fX [(0,i9 A n cap),(1,i9 D m cd),(2,a9 s),(8,a9 j),(27,a9 j),(28,no),(31,i9 A n cap),(32,a9 s),(33,a9 j),(34,a9 ((s+j:Nat):Int)),(35,.pointer (some am)),(36,i5 ((xs.getD (s+j) 0:Nat):Int)),(37,i9 D m cd),(38,a9 j),(39,.pointer (some ah)),(40,i5 ((es.getD j 0:Nat):Int)),(41,t9)] ⟨rfl,rfl,rfl,rfl,rfl,rfl,rfl,rfl,rfl,rfl,rfl,rfl,rfl,rfl,rfl,rfl,rfl,up⟩ (aC (aN G (aW (bG (aC (a6 (mv 1 G (aR G G G (((j:Nat):Int)-1) (fH G) (mv 1 G (aS (bW (⟨av,j,_⟩:a0×Nat×Int) ⟨r,(by omega),rfl,H8 e f hs hwx hwe (by omega) o (by omega),(F.ext X),(H.ext X)⟩ (show j<j+1 by omega) G ⟨rfl,rfl,rfl,rfl,up⟩)))))))))))
   ·obtain rfl:k=0:=by omega
    refine a6 (mv 1 G (aA G G G false (eF) (a1 (aN G (cN (cI (cL (cM (aC (sr (mv 1 G (a1 (aU ?_)))))))))))))
    refine aT [no] G ⟨rfl,up⟩ ?_
    exact⟨_,rfl,(show Value.bool true=_ by rw [decide_eq_true (HD e f hs hwx hwe o)]),E⟩
 ·have ba:=H9 e f hs hwx hwe hbig (fun h=>absurd h ab)
  refine a6 (mv 2 G (pu (v:= a9 n) G (aA G G G false (cW (a:=s+m) (b:=n) G G) (mv 6 G (pu (v:= t9) G (a1 (aN G (aW (aC (a7 (sr (mv 1 G (pu (v:= a9 m) G ?_)))))))))))))
  refine aR G G G (((m:Nat):Int)-1) (fH G) (mv 1 G (a1 (bI ?_)))
  refine cU (T:=a0×Nat×Int)
   (fun⟨wr,k,ii⟩=> [(0,i9 A n cap),(1,i9 D m cd),(2,a9 s),(8,a9 ii)])
   (fun⟨wr,k,ii⟩=>wr)
   (fun⟨wr,k,ii⟩=>(Ext w wr)∧(k≤m)∧(ii=(k:Int)-1)∧(nb 4294967296 (xs.drop (s+k))=nb 4294967296 (es.drop k))∧(Rd wr A n cap xs)∧(Rd wr D m cd es))
   (fun⟨wr,k,ii⟩=>k)
   (⟨w,m,_⟩:a0×Nat×Int) ⟨(Ext.refl w),aX _,rfl,ba,hx,hy⟩ G ⟨rfl,rfl,rfl,rfl,up⟩ ?_
  rintro⟨wr,k,ii⟩ ⟨E,hk,ck,o,F,H⟩
  refine cR [(0,i9 A n cap),(1,i9 D m cd),(2,a9 s),(8,a9 ii)] wr G ⟨rfl,rfl,rfl,rfl,up⟩ (a7 (a7 ?_))
  by_cases ci:0<k
  ·obtain⟨j,rfl⟩:∃j,k=j+1:=⟨k-1,by omega⟩
   obtain rfl:ii=(j:Int):=by omega
   refine a6 (mv 1 G (aA G G G true (fY (a:=j) (b:=0) G G) (a1 (aY G (aW (aC (a7 (bI (a7 ?_)))))))))
   by_cases ch:xs.getD (s+j) 0≠es.getD j 0
   ·refine bF [(0,i9 A n cap),(1,i9 D m cd),(2,a9 s),(8,a9 j),(27,a9 j),(28,no)] ⟨rfl,rfl,rfl,rfl,rfl,rfl,up⟩ ?_
    obtain⟨U,o,ao⟩:∃v,v=wr.drew∧Ext wr v:=⟨_,rfl,aK.drew⟩
    have r:=E.trans ao
    obtain⟨q,aa,W,_⟩:=((F.ext ao)).at (i:=s+j) (by omega)
    obtain⟨p,Z,Y,_⟩:=((H.ext ao)).at (i:=j) (by omega)
    refine gH cQ (w:=U) [i9 A n cap,a9 s,a9 j,a9 ((s+j:Nat):Int),.pointer (some q),i5 ((xs.getD (s+j) 0:Nat):Int),i9 D m cd,a9 j,.pointer (some p),i5 ((es.getD j 0:Nat):Int),no] [U] [] [[],[],[],[1,2],[0,3],[4],[],[],[6,7],[8],[5,9]] [[],[],[],[1,2],[0,1,2,3],[0,1,2,3,4],[],[],[6,7],[6,7,8],[0,1,2,3,4,5,6,7,8,9]] [(0,0),(1,0),(2,0),(3,0),(4,0),(5,0),(6,0),(7,0),(8,0),(9,0),(10,0)] G o ?_ ?_
    ·refine aZ _ G G G G G (bO G) (aZ _ G G G G G (bO G) (aZ _ G G G G G (bO G) (aZ _ G G G G G (kQ G G ((s+j:Nat):Int) (bN (a:=s) (b:=j) G G)) (aZ _ G G G G G (gZ G G bS bM (s+j) G q aa) (aZ _ G G G G G (cH G (cT d7 W)) (aZ _ G G G G G (bO G) (aZ _ G G G G G (bO G) (aZ _ G G G G G (gZ G G bS bM j G p Z) (aZ _ G G G G G (cH G (cT d7 Y)) (aZ _ G G G G G (nM G G true (x9 (a:=xs.getD (s+j) 0) (b:=es.getD j 0) G G)) ?_))))))))))
     exact gG
    clear o
    refine fX [(0,i9 A n cap),(1,i9 D m cd),(2,a9 s),(8,a9 j),(27,a9 j),(28,no),(31,i9 A n cap),(32,a9 s),(33,a9 j),(34,a9 ((s+j:Nat):Int)),(35,.pointer (some q)),(36,i5 ((xs.getD (s+j) 0:Nat):Int)),(37,i9 D m cd),(38,a9 j),(39,.pointer (some p)),(40,i5 ((es.getD j 0:Nat):Int)),(41,no)] ⟨rfl,rfl,rfl,rfl,rfl,rfl,rfl,rfl,rfl,rfl,rfl,rfl,rfl,rfl,rfl,rfl,rfl,up⟩ (aC (aY G (a7 ?_)))
    by_cases ar:xs.getD (s+j) 0>es.getD j 0
    ·refine bF [(0,i9 A n cap),(1,i9 D m cd),(2,a9 s),(8,a9 j),(27,a9 j),(28,no),(31,i9 A n cap),(32,a9 s),(33,a9 j),(34,a9 ((s+j:Nat):Int)),(35,.pointer (some q)),(36,i5 ((xs.getD (s+j) 0:Nat):Int)),(37,i9 D m cd),(38,a9 j),(39,.pointer (some p)),(40,i5 ((es.getD j 0:Nat):Int)),(41,no)] ⟨rfl,rfl,rfl,rfl,rfl,rfl,rfl,rfl,rfl,rfl,rfl,rfl,rfl,rfl,rfl,rfl,rfl,up⟩ ?_
     obtain⟨bz,o,ae⟩:∃v,v=U.drew∧Ext U v:=⟨_,rfl,aK.drew⟩
     have I:=r.trans ae
     refine gH cQ (w:=bz) [i9 A n cap,a9 s,a9 j,a9 ((s+j:Nat):Int),.pointer (some q),i5 ((xs.getD (s+j) 0:Nat):Int),i9 D m cd,a9 j,.pointer (some p),i5 ((es.getD j 0:Nat):Int),no,no] [bz] [] [[],[],[],[1,2],[0,3],[4],[],[],[6,7],[8],[5,9],[10]] [[],[],[],[1,2],[0,1,2,3],[0,1,2,3,4],[],[],[6,7],[6,7,8],[0,1,2,3,4,5,6,7,8,9],[0,1,2,3,4,5,6,7,8,9,10]] [(0,0),(1,0),(2,0),(3,0),(4,0),(5,0),(6,0),(7,0),(8,0),(9,0),(10,0),(11,0)] G o ?_ ?_
     ·refine aZ _ G G G G G (bO G) (aZ _ G G G G G (bO G) (aZ _ G G G G G (bO G) (aZ _ G G G G G (kQ G G ((s+j:Nat):Int) (bN (a:=s) (b:=j) G G)) (aZ _ G G G G G (gZ G G bS bM (s+j) G q aa) (aZ _ G G G G G (cH G (cT d7 (ae.cell W))) (aZ _ G G G G G (bO G) (aZ _ G G G G G (bO G) (aZ _ G G G G G (gZ G G bS bM j G p Z) (aZ _ G G G G G (cH G (cT d7 (ae.cell Y))) (aZ _ G G G G G (nM G G true (fB (a:=xs.getD (s+j) 0) (b:=es.getD j 0) G G)) (aZ _ G G G G G (i7 G) ?_)))))))))))
      exact gG
     clear o
     refine fX [(0,i9 A n cap),(1,i9 D m cd),(2,a9 s),(8,a9 j),(27,a9 j),(28,no),(31,i9 A n cap),(32,a9 s),(33,a9 j),(34,a9 ((s+j:Nat):Int)),(35,.pointer (some q)),(36,i5 ((xs.getD (s+j) 0:Nat):Int)),(37,i9 D m cd),(38,a9 j),(39,.pointer (some p)),(40,i5 ((es.getD j 0:Nat):Int)),(41,no),(42,i9 A n cap),(43,a9 s),(44,a9 j),(45,a9 ((s+j:Nat):Int)),(46,.pointer (some q)),(47,i5 ((xs.getD (s+j) 0:Nat):Int)),(48,i9 D m cd),(49,a9 j),(50,.pointer (some p)),(51,i5 ((es.getD j 0:Nat):Int)),(52,no),(6,no)] ⟨rfl,rfl,rfl,rfl,rfl,rfl,rfl,rfl,rfl,rfl,rfl,rfl,rfl,rfl,rfl,rfl,rfl,rfl,rfl,rfl,rfl,rfl,rfl,rfl,rfl,rfl,rfl,rfl,rfl,up⟩ (aC (aU (gM (bU (nY (gM (bU (aT [no] G ⟨rfl,up⟩ ?_))))))))
     exact⟨_,rfl,(show Value.bool true=_ by rw [decide_eq_true (HC e f hs hwx hwe (by omega) o ar)]),I⟩
    ·refine bF [(0,i9 A n cap),(1,i9 D m cd),(2,a9 s),(8,a9 j),(27,a9 j),(28,no),(31,i9 A n cap),(32,a9 s),(33,a9 j),(34,a9 ((s+j:Nat):Int)),(35,.pointer (some q)),(36,i5 ((xs.getD (s+j) 0:Nat):Int)),(37,i9 D m cd),(38,a9 j),(39,.pointer (some p)),(40,i5 ((es.getD j 0:Nat):Int)),(41,no)] ⟨rfl,rfl,rfl,rfl,rfl,rfl,rfl,rfl,rfl,rfl,rfl,rfl,rfl,rfl,rfl,rfl,rfl,up⟩ ?_
     obtain⟨bi,o,ak⟩:∃v,v=U.drew∧Ext U v:=⟨_,rfl,aK.drew⟩
     have I:=r.trans ak
     refine gH cQ (w:=bi) [i9 A n cap,a9 s,a9 j,a9 ((s+j:Nat):Int),.pointer (some q),i5 ((xs.getD (s+j) 0:Nat):Int),i9 D m cd,a9 j,.pointer (some p),i5 ((es.getD j 0:Nat):Int),F0,F0] [bi] [] [[],[],[],[1,2],[0,3],[4],[],[],[6,7],[8],[5,9],[10]] [[],[],[],[1,2],[0,1,2,3],[0,1,2,3,4],[],[],[6,7],[6,7,8],[0,1,2,3,4,5,6,7,8,9],[0,1,2,3,4,5,6,7,8,9,10]] [(0,0),(1,0),(2,0),(3,0),(4,0),(5,0),(6,0),(7,0),(8,0),(9,0),(10,0),(11,0)] G o ?_ ?_
     ·refine aZ _ G G G G G (bO G) (aZ _ G G G G G (bO G) (aZ _ G G G G G (bO G) (aZ _ G G G G G (kQ G G ((s+j:Nat):Int) (bN (a:=s) (b:=j) G G)) (aZ _ G G G G G (gZ G G bS bM (s+j) G q aa) (aZ _ G G G G G (cH G (cT d7 (ak.cell W))) (aZ _ G G G G G (bO G) (aZ _ G G G G G (bO G) (aZ _ G G G G G (gZ G G bS bM j G p Z) (aZ _ G G G G G (cH G (cT d7 (ak.cell Y))) (aZ _ G G G G G (nM G G false (fC (a:=xs.getD (s+j) 0) (b:=es.getD j 0) G G)) (aZ _ G G G G G (i7 G) ?_)))))))))))
      exact gG
     clear o
     refine fX [(0,i9 A n cap),(1,i9 D m cd),(2,a9 s),(8,a9 j),(27,a9 j),(28,no),(31,i9 A n cap),(32,a9 s),(33,a9 j),(34,a9 ((s+j:Nat):Int)),(35,.pointer (some q)),(36,i5 ((xs.getD (s+j) 0:Nat):Int)),(37,i9 D m cd),(38,a9 j),(39,.pointer (some p)),(40,i5 ((es.getD j 0:Nat):Int)),(41,no),(42,i9 A n cap),(43,a9 s),(44,a9 j),(45,a9 ((s+j:Nat):Int)),(46,.pointer (some q)),(47,i5 ((xs.getD (s+j) 0:Nat):Int)),(48,i9 D m cd),(49,a9 j),(50,.pointer (some p)),(51,i5 ((es.getD j 0:Nat):Int)),(52,t9),(6,t9)] ⟨rfl,rfl,rfl,rfl,rfl,rfl,rfl,rfl,rfl,rfl,rfl,rfl,rfl,rfl,rfl,rfl,rfl,rfl,rfl,rfl,rfl,rfl,rfl,rfl,rfl,rfl,rfl,rfl,rfl,up⟩ (aC (aU (gM (bU (nY (gM (bU (aT [F0] G ⟨rfl,up⟩ ?_))))))))
     exact⟨_,rfl,(show Value.bool false=_ by rw [decide_eq_false (HA e f hs hwx hwe (by omega) o (by omega))]),I⟩
   ·refine bF [(0,i9 A n cap),(1,i9 D m cd),(2,a9 s),(8,a9 j),(27,a9 j),(28,no)] ⟨rfl,rfl,rfl,rfl,rfl,rfl,up⟩ ?_
    obtain⟨aq,o,V⟩:∃v,v=wr.drew∧Ext wr v:=⟨_,rfl,aK.drew⟩
    have r:=E.trans V
    obtain⟨au,bo,bv,_⟩:=((F.ext V)).at (i:=s+j) (by omega)
    obtain⟨ag,bu,bh,_⟩:=((H.ext V)).at (i:=j) (by omega)
    refine gH cQ (w:=aq) [i9 A n cap,a9 s,a9 j,a9 ((s+j:Nat):Int),.pointer (some au),i5 ((xs.getD (s+j) 0:Nat):Int),i9 D m cd,a9 j,.pointer (some ag),i5 ((es.getD j 0:Nat):Int),F0] [aq] [] [[],[],[],[1,2],[0,3],[4],[],[],[6,7],[8],[5,9]] [[],[],[],[1,2],[0,1,2,3],[0,1,2,3,4],[],[],[6,7],[6,7,8],[0,1,2,3,4,5,6,7,8,9]] [(0,0),(1,0),(2,0),(3,0),(4,0),(5,0),(6,0),(7,0),(8,0),(9,0),(10,0)] G o ?_ ?_
    ·refine aZ _ G G G G G (bO G) (aZ _ G G G G G (bO G) (aZ _ G G G G G (bO G) (aZ _ G G G G G (kQ G G ((s+j:Nat):Int) (bN (a:=s) (b:=j) G G)) (aZ _ G G G G G (gZ G G bS bM (s+j) G au bo) (aZ _ G G G G G (cH G (cT d7 bv)) (aZ _ G G G G G (bO G) (aZ _ G G G G G (bO G) (aZ _ G G G G G (gZ G G bS bM j G ag bu) (aZ _ G G G G G (cH G (cT d7 bh)) (aZ _ G G G G G (nM G G false (k8 (a:=xs.getD (s+j) 0) (b:=es.getD j 0) G G)) ?_))))))))))
     exact gG
    clear o
    refine fX [(0,i9 A n cap),(1,i9 D m cd),(2,a9 s),(8,a9 j),(27,a9 j),(28,no),(31,i9 A n cap),(32,a9 s),(33,a9 j),(34,a9 ((s+j:Nat):Int)),(35,.pointer (some au)),(36,i5 ((xs.getD (s+j) 0:Nat):Int)),(37,i9 D m cd),(38,a9 j),(39,.pointer (some ag)),(40,i5 ((es.getD j 0:Nat):Int)),(41,t9)] ⟨rfl,rfl,rfl,rfl,rfl,rfl,rfl,rfl,rfl,rfl,rfl,rfl,rfl,rfl,rfl,rfl,rfl,up⟩ (aC (aN G (aW (bG (aC (a6 (mv 1 G (aR G G G (((j:Nat):Int)-1) (fH G) (mv 1 G (aS (bW (⟨aq,j,_⟩:a0×Nat×Int) ⟨r,(by omega),rfl,H8 e f hs hwx hwe (by omega) o (by omega),(F.ext V),(H.ext V)⟩ (show j<j+1 by omega) G ⟨rfl,rfl,rfl,rfl,up⟩)))))))))))
  ·obtain rfl:k=0:=by omega
   refine a6 (mv 1 G (aA G G G false (eF) (a1 (aN G (cN (cI (cL (cM (aC (sr (mv 1 G (a1 (aU ?_)))))))))))))
   refine aT [no] G ⟨rfl,up⟩ ?_
   exact⟨_,rfl,(show Value.bool true=_ by rw [decide_eq_true (HD e f hs hwx hwe o)]),E⟩
theorem G1 (hi:i<l.length):l.getD i 0*b^i≤nb b l:=by
 rw [l9 b l i,kJ hi,cZ,cY (l.getD i 0)]
 omega
theorem VG {x y:Nat}(h:q*y+r=x)(hr:r<y):q=x/y∧r=x%y:=by
 subst h
 rw [cY]
 constructor
 ·rw [nC (by omega),gV hr];rfl
 ·rw [tW,fO hr]
theorem AC (hb:0<b)(hm:0<m)(hl:es.length=m)(ht:es.getD (m-1) 0≠0):b^(m-1)≤nb b es:=by
 refine aE ?_ (G1 (b:=b) (l:=es) (i:=m-1) (by omega))
 exact Nat.le_mul_of_pos_left _ (by omega)
theorem QQ (hb:0<b)(hm:0<m)(hl:es.length=m)(ht:es.getD (m-1) 0≠0):0<nb b es:=cS (gC hb) (AC hb hm hl ht)
theorem MZ (hw:Wfb 4294967296 xs)(hn:xs.length=n)(hl:es.length=m)(h:n<m)(ht:es.getD (m-1) 0≠0):nb 4294967296 xs<nb 4294967296 es:=by
 have h1:=nS hw
 rw [hn] at h1
 have h2:=AC (b:=4294967296) (by decide) (by omega) hl ht
 have e:4294967296^n≤4294967296^(m-1):=eW (by decide) (by omega)
 omega
theorem vG {s:Nat}{b:Bool}(hx:Rd w A n cap xs)(hy:Rd w D m cd es)(hwx:Wfb 4294967296 xs)(hwe:Wfb 4294967296 es)(hbig:nb 4294967296 xs<4294967296^(s+m+1))(hb:decide (nb 4294967296 es*4294967296^s≤nb 4294967296 xs)=b)(hln:n≤1099511627776:=by omega)(hs:s+m≤n:=by omega):aQ aH 260 #[i9 A n cap,i9 D m cd,a9 (s:Int)] w (Gv w (Is (.bool b))):=hb▸PG hx hln hy hwx hwe hs hbig
theorem QR {i':Nat}(h:i+1=i')(hi:i'<l.length):(l.getD i 0+l.getD i' 0*b)*b^i≤nb b l:=by
 subst h
 rw [l9 b l i,kJ (k:=i) (by omega),kJ (k:=i+1) hi,cY,cY (l.getD (i+1) 0)]
 refine aE (fN _ ?_) (Nat.le_add_left _ _)
 rw [cZ]
 omega
theorem V2 (hw:Wfb 4294967296 l)(hk:k≤l.length)(h0:0<k)(hv:nb 4294967296 (l.take k)=nb 4294967296 l):nb 4294967296 l<(l.getD (k-1) 0+1)*4294967296^(k-1):=by
 obtain⟨j,rfl⟩:∃j,k=j+1:=⟨k-1,by omega⟩
 rw [←hv,hJ 4294967296 l j (by omega),Nat.add_sub_cancel,dO,Nat.one_mul,cY (l.getD j 0)]
 have:=qR hw j
 omega
theorem IU {D hd t:Nat}(hD:D<hd*4294967296^(k-1))(hk:0<k)(ht:t*4294967296^(j+k-1)≤R):t/hd*D*4294967296^j≤R:=by
 have h1:t/hd*D≤t/hd*(hd*4294967296^(k-1)):=fN _ (Nat.le_of_lt hD)
 have h2:t/hd*(hd*4294967296^(k-1))≤t*4294967296^(k-1):=by
  rw [←bY]
  exact eC _ (Nat.div_mul_le_self t hd)
 have e:=eC (4294967296^j) (aE h1 h2)
 rw [bY t,←dX,show k-1+j=j+k-1 by omega] at e
 exact aE e ht
theorem tF {D:Nat}(h:n*D*4294967296^j≤R)(hR:R<D*4294967296^(j+1)):n<4294967296:=by
 refine nD fun hn=>?_
 have h1:4294967296*D*4294967296^j≤n*D*4294967296^j:=eC _ (eC _ hn)
 have h2:4294967296*D*4294967296^j=D*4294967296^(j+1):=by rw [dJ];grind
 omega
structure DO (Z D k:Nat)(lq lr:List Nat):Prop where
 wq:Wfb 4294967296 lq
 wr:Wfb 4294967296 lr
 v:nb 4294967296 lq*D+nb 4294967296 lr=Z
 lt:nb 4294967296 lr<D*4294967296^k
 z:∀i,i<k→lq.getD i 0=0
structure DI (Z D j:Nat)(lq lr:List Nat):Prop where
 wq:Wfb 4294967296 lq
 wr:Wfb 4294967296 lr
 v:nb 4294967296 lq*D+nb 4294967296 lr=Z
 lt:lq.getD j 0*(D*4294967296^j)+nb 4294967296 lr<D*4294967296^(j+1)
 z:∀i,i<j→lq.getD i 0=0
theorem SP (k i:Nat):(cJ k 0).getD i 0=0:=by
 rw [bE]
 by_cases h:i<k
 ·rw [List.getElem?_replicate_of_lt h];rfl
 ·rw [gW (by rw [List.length_replicate];omega)];rfl
theorem DO.start (hw:Wfb 4294967296 lr)(hr:nb 4294967296 lr=X*f)(hd:nb 4294967296 ld=Y*f)(hf:1≤f)(hX:X<4294967296^n)(hY:4294967296^(m-1)≤Y)(hm:0<m)(hmn:m≤n):DO (X*f) (nb 4294967296 ld) (n-m+1) (cJ (n-m+1) 0) lr:=by
 refine⟨pK (by decide) _,hw,by rw [vK,hr];omega,?_,fun i _=>SP _ i⟩
 rw [hr,hd]
 have h1:4294967296^n=4294967296^(m-1)*4294967296^(n-m+1):=by rw [←dX];congr 1;omega
 have h2:4294967296^(m-1)*4294967296^(n-m+1)≤Y*4294967296^(n-m+1):=eC _ hY
 rw [pR]
 exact Nat.mul_lt_mul_of_pos_right (by omega) hf
theorem DO.enter {D:Nat}(h:DO Z D (j+1) lq lr):DI Z D j lq lr:=⟨h.wq,h.wr,h.v,by rw [h.z j (by omega),Nat.zero_mul,eQ];exact h.lt,fun i hi=>h.z i (by omega)⟩
theorem DI.leave {D:Nat}(h:DI Z D j lq lr)(hn:¬D*4294967296^j≤nb 4294967296 lr):DO Z D j lq lr:=⟨h.wq,h.wr,h.v,by omega,h.z⟩
theorem DI.sum {D:Nat}(h:DI Z D j lq lr)(hv:nb 4294967296 l'+n*D*4294967296^j=nb 4294967296 lr):(lq.getD j 0+n)*(D*4294967296^j)+nb 4294967296 l'<D*4294967296^(j+1):=by
 have h1:=h.lt
 rw [dO,←bY n]
 omega
theorem DI.digit {D:Nat}(h:DI Z D j lq lr)(hv:nb 4294967296 l'+n*D*4294967296^j=nb 4294967296 lr):lq.getD j 0+n<4294967296:=by
 have h1:=h.sum hv
 refine tF (R:=(lq.getD j 0+n)*D*4294967296^j) (aX _) ?_
 rw [bY];omega
theorem DI.step {D:Nat}(h:DI Z D j lq lr)(hj:j<lq.length)(hw:Wfb 4294967296 l')(hv:nb 4294967296 l'+n*D*4294967296^j=nb 4294967296 lr):DI Z D j (lq.set j (lq.getD j 0+n)) l':=by
 refine⟨iF h.wq _ (hx:=(h.digit hv)),hw,?_,?_,fun i hi=>by rw [getD_set_ne (by omega),h.z i hi]⟩
 ·have h1:=sR 4294967296 hj (lq.getD j 0+n)
  rw [cZ] at h1
  have h2:nb 4294967296 (lq.set j (lq.getD j 0+n))=nb 4294967296 lq+4294967296^j*n:=by omega
  have f:=h.v
  have e:4294967296^j*n*D=n*D*4294967296^j:=by grind
  rw [h2,dO,e]
  omega
 ·rw [rH hj];exact h.sum hv
theorem wO {D:Nat}(hn:1≤n)(hD:0<D)(hv:nb 4294967296 l'+n*D*4294967296^j=nb 4294967296 lr):nb 4294967296 l'<nb 4294967296 lr:=by
 have:0<n*D*4294967296^j:=iI (iI hn hD) (gC (by decide))
 omega
theorem wP {D:Nat}(h:DI Z D j lq lr)(hd:nb 4294967296 ld=D)(hw:Wfb 4294967296 ld)(hv:nb 4294967296 (ld.take k)=nb 4294967296 ld):nb 4294967296 lr<4294967296^(j+k+1):=by
 have h1:=qR hw k
 rw [hv,hd] at h1
 have h2:=h.lt
 have e:D*4294967296^(j+1)≤4294967296^k*4294967296^(j+1):=eC _ (Nat.le_of_lt h1)
 rw [←dX,show k+(j+1)=j+k+1 by omega] at e
 omega
structure DF (f:Nat)(l0:List Nat)(k rest:Nat)(l:List Nat):Prop where
 len:l.length=l0.length
 wf:Wfb 4294967296 l
 rf:rest<f
 v:nb 4294967296 (l0.drop k)=nb 4294967296 (l.drop k)*f+rest
 same:∀i,i<k→l.getD i 0=l0.getD i 0
theorem DF.start (hw:Wfb 4294967296 l0)(hf:1≤f)(hl:l0.length=n):DF f l0 n 0 l0:=⟨rfl,hw,hf,by rw [List.drop_of_length_le (by omega),vM,Nat.zero_mul],fun _ _=>rfl⟩
theorem DF.step (h:DF f l0 (j+1) rest l)(hj:j<l0.length)(hd:(rest*4294967296+l.getD j 0)/f<4294967296)(hf:1≤f):DF f l0 j ((rest*4294967296+l.getD j 0)%f) (l.set j ((rest*4294967296+l.getD j 0)/f)):=by
 refine⟨by rw [List.length_set,h.len],iF h.wf _ (hx:=hd),fV _ hf,?_,fun i hi=>by rw [getD_set_ne (by omega),h.same i (by omega)]⟩
 rw [kJ hj,kJ (xs:=l.set j _) (k:=j) (by rw [List.length_set,h.len];exact hj),rH (by rw [h.len];exact hj),h.v,←h.same j (by omega),List.drop_set_of_lt (by omega)]
 have e:=lM (rest*4294967296+l.getD j 0) f
 generalize (rest*4294967296+l.getD j 0)/f=Q at*
 generalize (rest*4294967296+l.getD j 0)%f=R at*
 have o:(Q+4294967296*nb 4294967296 (List.drop (j+1) l))*f=f*Q+4294967296*(nb 4294967296 (List.drop (j+1) l)*f):=by grind
 rw [o]
 omega
theorem DF.digit (h:DF f l0 (j+1) rest l):(rest*4294967296+l.getD j 0)/f<4294967296:=by
 have h1:=iT (b:=4294967296) h.wf j
 have h2:=h.rf
 rw [tZ (by omega)]
 have e:(rest+1)*4294967296≤f*4294967296:=eC _ h2
 rw [cY 4294967296 f]
 omega
theorem V3 (h:DO (X*f) (nb 4294967296 ld) 0 lq lr)(hd:nb 4294967296 ld=Y*f)(hF:DF f lr 0 rest l):nb 4294967296 lq=X/Y∧nb 4294967296 l=X%Y:=by
 have h1:=h.v
 have h2:=h.lt
 have o:=hF.v
 have r:=hF.rf
 rw [gQ,gQ] at o
 rw [hd,Nat.pow_zero,dK] at h2
 rw [hd] at h1
 have e:(nb 4294967296 lq*Y+nb 4294967296 l)*f+rest=X*f:=by rw [dO,bY];omega
 have h0:rest=0:=by
  have:=congrArg (· %f) e
  simp only [Nat.mul_mod_left,Nat.add_comm _ rest,Nat.add_mul_mod_self_right] at this
  rwa [fO r] at this
 rw [h0,eS] at e o
 have p:=Nat.eq_of_mul_eq_mul_right (by omega:0<f) e
 have q:nb 4294967296 l<Y:=by
  rw [o] at h2
  exact Nat.lt_of_mul_lt_mul_right h2
 have:=VG (x:=X) (y:=Y) p q
 exact this
theorem PI (hx:Rd w A n cap xs)(hln:n≤274877906944)(hy:Rd w D m cd es)(hlm:m≤274877906944)(hwx:Wfb 4294967296 xs)(hwe:Wfb 4294967296 es)(hxt:n=0∨xs.getD (n-1) 0≠0)(hm0:0<m)(htop:es.getD (m-1) 0≠0):aQ aH 230 #[i9 A n cap,i9 D m cd] w (Gv w (T2 (WD (nb 4294967296 xs/nb 4294967296 es)) (WD (nb 4294967296 xs%nb 4294967296 es)))):=by
 have bg:=hx.len
 have ji:=hx.rv.le
 have bf:=hy.len
 have jg:=hy.rv.le
 refine bL Tryz.func230 G (n:=143) G (bq G) (args:= [i9 A n cap,i9 D m cd]) (bF [(0,i9 A n cap),(1,i9 D m cd)] ⟨rfl,rfl,up⟩ (sr (mv 2 G (a1 (a7 (a7 ?_))))))
 by_cases fz:n<m
 ·refine a6 (mv 1 G (pu (v:= a9 n) G (mv 1 G (pu (v:= a9 m) G (aA G G G true (dG (a:=n) (b:=m) G G) (a1 (aY G (sr (mv 3 G (a1 (aU (bU (aT [S0,i9 A n cap] G ⟨rfl,rfl,up⟩ ?_)))))))))))))
  have fi:=MZ hwx bg bf fz htop
  refine⟨_,rfl,⟨_,_,rfl,⟨_,_,_,rfl,?_⟩,⟨_,_,_,rfl,?_⟩⟩,(Ext.refl w)⟩
  ·rw [gV fi];exact Rd.nil _
  ·rw [fO fi,BN kA hwx (by rw [bg];exact hxt)];exact hx
 ·refine a6 (mv 1 G (pu (v:= a9 n) G (mv 1 G (pu (v:= a9 m) G (aA G G G false (cW (a:=n) (b:=m) G G) (a1 (aN G (aW (aC (a7 ?_))))))))))
  have jz:=iT (b:=4294967296) hwe (m-1)
  refine a6 (mv 1 G (a1 (a7 (bI ?_))))
  refine cU (T:=a0×Nat)
   (fun⟨wr,f⟩=> [(0,i9 A n cap),(1,i9 D m cd),(6,i5 f)])
   (fun⟨wr,f⟩=>wr)
   (fun⟨wr,f⟩=>(Ext w wr)∧(1≤f)∧(f≤4294967295)∧(Rd wr A n cap xs)∧(Rd wr D m cd es))
   (fun⟨wr,f⟩=>4294967296-f)
   (⟨w,1⟩:a0×Nat) ⟨(Ext.refl w),(by decide),(by decide),hx,hy⟩ G ⟨rfl,rfl,rfl,up⟩ ?_
  rintro⟨wr,f⟩ ⟨W,bv,fc,ba,ar⟩
  refine cR [(0,i9 A n cap),(1,i9 D m cd),(6,i5 f)] wr G ⟨rfl,rfl,rfl,up⟩ (a7 (a7 ?_))
  have hm:(es.getD (m-1) 0)*f≤4294967295*4294967295:=j3 (by omega) (by omega)
  by_cases jf:(es.getD (m-1) 0)*f<2147483648
  ·have jy:1*f≤(es.getD (m-1) 0)*f:=eC _ (by omega)
   refine a6 (mv 2 G (pu (v:= a9 m) G (aR G G G ((m-1:Nat):Int) (gI (a:=m) (b:=1) G G) ?_)))
   obtain⟨p1,gy,il,_⟩:=(ar).at (i:=m-1) (by omega)
   refine bK G G G bS bM (m-1) G p1 gy (aL G G (cT d7 il) (mv 1 G (aR G G G (((es.getD (m-1) 0)*f:Nat):Int) (kW (a:=es.getD (m-1) 0) (b:=f) G G) (aA G G G true (dG (a:=(es.getD (m-1) 0)*f) (b:=2147483648) G G) (a1 (aY G (aW (aC (bI (a6 (mv 1 G (aR G G G ((2*f:Nat):Int) (kW (a:=2) (b:=f) G G) (mv 1 G ?_)))))))))))))
   refine aS (bG (bW (⟨wr,2*f⟩:a0×Nat) ⟨W,(by omega),(by omega),ba,ar⟩ (show 4294967296-2*f<4294967296-f by omega) G ⟨rfl,rfl,rfl,up⟩))
  ·refine a6 (mv 2 G (pu (v:= a9 m) G (aR G G G ((m-1:Nat):Int) (gI (a:=m) (b:=1) G G) ?_)))
   obtain⟨p2,iw,gi,_⟩:=(ar).at (i:=m-1) (by omega)
   refine bK G G G bS bM (m-1) G p2 iw (aL G G (cT d7 gi) (mv 1 G (aR G G G (((es.getD (m-1) 0)*f:Nat):Int) (kW (a:=es.getD (m-1) 0) (b:=f) G G) (aA G G G false (cW (a:=(es.getD (m-1) 0)*f) (b:=2147483648) G G) (a1 (aN G (cN (cI (cL (cM (aC (sr (mv 1 G ?_)))))))))))))
   refine mv 1 G (cl (vs:= [i9 A n cap,i5 f]) W (F4 ba (by omega) hwx fc) G (by kernel_rfl) fun _ _ r5 e4 M=>?_)
   obtain⟨Y,_,rfl,go,cx,ij,em,en⟩:=r5
   have bd:w.heap.size≤Y:=aE W.size go
   have jh:0<cap→∀a,A=some a→a.block≠Y:=fun hc a ha=>by have:=(ba).rv.blk a ha hc;omega
   have jw:0<cd→∀a,D=some a→a.block≠Y:=fun hc a ha=>by have:=(ar).rv.blk a ha hc;omega
   refine mv 1 G (a1 (sr (mv 2 G (cl (vs:= [i9 D m cd,i5 f]) M (F4 (ar.ext e4) (by omega) hwe fc) G (by kernel_rfl) fun _ _ ie bz ag=>?_))))
   obtain⟨r,p,rfl,ci,aw,Z,o,cu⟩:=ie
   have jb:w.heap.size≤r:=aE M.size ci
   have jx:Y<r:=cS cx.lt ci
   have ja:0<cap→∀a,A=some a→a.block≠r:=fun hc a ha=>by have:=((ba.ext e4)).rv.blk a ha hc;omega
   have jc:0<cd→∀a,D=some a→a.block≠r:=fun hc a ha=>by have:=((ar.ext e4)).rv.blk a ha hc;omega
   refine mv 1 G (a1 (sr (mv 1 G (cl (vs:= [i9 (some ⟨r,0,none⟩) (m+1) (m+1)]) ag (qL (aw.rd0 o.wf Z (by omega))) G (by kernel_rfl) fun _ _ ik aq az=>?_))))
   obtain⟨h,rfl,_,_,fa⟩:=ik
   refine mv 1 G (a1 (a7 ?_))
   have hD:=cu
   have I:=fa 4294967296
   have fv:=QQ (b:=4294967296) (by decide) (by omega) bf htop
   have bu:0<nb 4294967296 p:=by rw [hD];exact iI fv bv
   have dg:0<h:=by refine Nat.pos_of_ne_zero fun e=>?_;rw [e] at I;simp only [List.take_zero,vM] at I;omega
   have dw:=V2 o (by omega) dg I
   have iy:=iT (b:=4294967296) o (h-1)
   refine a6 (mv 1 G (pu (v:= a9 n) G (mv 1 G (pu (v:= a9 m) G (aR G G G ((n-m:Nat):Int) (gI (a:=n) (b:=m) G G) (aR G G G (((n-m)+1:Nat):Int) (bN (a:=n-m) (b:=1) G G) (l6 G (k:=(n-m)+1) G G G bS iB G fun E iq au ch cg=>?_)))))))
   rw [jY] at ch
   have av:w.heap.size≤E:=by rw [←au];exact az.size
   have jp:Y<E:=by rw [←au];exact (cx.ext (bz.t aq)).lt
   have ju:r<E:=by rw [←au];exact (aw.ext aq).lt
   have je:0<cap→∀a,A=some a→a.block≠E:=fun hc a ha=>by have:=((ba.ext (e4.t (bz.t aq)))).rv.blk a ha hc;omega
   have jd:0<cd→∀a,D=some a→a.block≠E:=fun hc a ha=>by have:=((ar.ext (e4.t (bz.t aq)))).rv.blk a ha hc;omega
   clear au
   have ib:=az.trans cg
   refine mv 1 G (a1 (sr (mv 2 G (pu (v:= a9 h) G (aR G G G ((h-1:Nat):Int) (gI (a:=h) (b:=1) G G) (bK G G G bS bM (h-1) G ⟨r,h-1,none⟩ (dN _ _) (aL G G (iA d7 (aw.ext (aq.t cg)) (by rw [Z];omega)) (aR G G G (((p.getD (h-1) 0)+1:Nat):Int) (iD (a:=p.getD (h-1) 0) (b:=1) G G) (mv 1 G (a1 (a7 (sr (mv 1 G ?_)))))))))))))
   refine pu (v:= a9 n) G (mv 1 G (pu (v:= a9 m) G (aR G G G ((n-m:Nat):Int) (gI (a:=n) (b:=m) G G) (mv 1 G (a1 (bI ?_))))))
   refine cU (T:=a0×Nat×Int×List Nat×List Nat)
    (fun⟨wr,k,ii,lq,lr⟩=> [(6,i5 f),(7,i9 (some ⟨Y,0,none⟩) (n+1) (n+1)),(8,i9 (some ⟨r,0,none⟩) h (m+1)),(9,i9 (some ⟨E,0,none⟩) ((n-m)+1) ((n-m)+1)),(10,i5 (((p.getD (h-1) 0)+1:Nat):Int)),(11,a9 ii)])
    (fun⟨wr,k,ii,lq,lr⟩=>wr)
    (fun⟨wr,k,ii,lq,lr⟩=>(Ext w wr)∧(k≤n-m+1)∧(ii=(k:Int)-1)∧(Bk wr Y 65 (lr.map bC))∧(lr.length=n+1)∧(Bk wr r 65 (p.map bC))∧(Bk wr E 65 (lq.map bC))∧(lq.length=n-m+1)∧(DO (nb 4294967296 xs*f) (nb 4294967296 p) k lq lr))
    (fun⟨wr,k,ii,lq,lr⟩=>k)
    (⟨iq,n-m+1,_,_,_⟩:a0×Nat×Int×List Nat×List Nat) ⟨ib,aX _,(by omega),(cx.ext (bz.t (aq.t cg))),ij,(aw.ext (aq.t cg)),ch,(List.length_replicate (n:=(n-m)+1) (a:=0)),DO.start em en hD bv (by have:=nS hwx;rwa [bg] at this) (AC (by decide) (by omega) bf htop) (by omega) (by omega)⟩ G ⟨rfl,rfl,rfl,rfl,rfl,rfl,up⟩ ?_
   rintro⟨wr,k,ii,lq,lr⟩ ⟨W,hk,ir,F,V,X,U,L,hO⟩
   refine cR [(6,i5 f),(7,i9 (some ⟨Y,0,none⟩) (n+1) (n+1)),(8,i9 (some ⟨r,0,none⟩) h (m+1)),(9,i9 (some ⟨E,0,none⟩) ((n-m)+1) ((n-m)+1)),(10,i5 (((p.getD (h-1) 0)+1:Nat):Int)),(11,a9 ii)] wr G ⟨rfl,rfl,rfl,rfl,rfl,rfl,up⟩ (a7 (a7 ?_))
   by_cases io:0<k
   ·obtain⟨j,rfl⟩:∃j,k=j+1:=⟨k-1,by omega⟩
    obtain rfl:ii=(j:Int):=by omega
    refine a6 (mv 1 G (aA G G G true (fY (a:=j) (b:=0) G G) (a1 (aY G (aW (aC (a7 (bI (bI ?_)))))))))
    have hE:=hO.enter
    clear hO
    refine cU (T:=a0×List Nat×List Nat)
     (fun⟨wr,lq,lr⟩=> [(6,i5 f),(7,i9 (some ⟨Y,0,none⟩) (n+1) (n+1)),(8,i9 (some ⟨r,0,none⟩) h (m+1)),(9,i9 (some ⟨E,0,none⟩) ((n-m)+1) ((n-m)+1)),(10,i5 (((p.getD (h-1) 0)+1:Nat):Int)),(11,a9 j)])
     (fun⟨wr,lq,lr⟩=>wr)
     (fun⟨wr,lq,lr⟩=>(Ext w wr)∧(Bk wr Y 65 (lr.map bC))∧(lr.length=n+1)∧(Bk wr r 65 (p.map bC))∧(Bk wr E 65 (lq.map bC))∧(lq.length=n-m+1)∧(DI (nb 4294967296 xs*f) (nb 4294967296 p) j lq lr))
     (fun⟨wr,lq,lr⟩=>nb 4294967296 lr)
     (⟨wr,_,_⟩:a0×List Nat×List Nat) ⟨W,F,V,X,U,L,hE⟩ G ⟨rfl,rfl,rfl,rfl,rfl,rfl,up⟩ ?_
    rintro⟨wr,lq,lr⟩ ⟨W,F,V,X,U,L,hI⟩
    refine cR [(6,i5 f),(7,i9 (some ⟨Y,0,none⟩) (n+1) (n+1)),(8,i9 (some ⟨r,0,none⟩) h (m+1)),(9,i9 (some ⟨E,0,none⟩) ((n-m)+1) ((n-m)+1)),(10,i5 (((p.getD (h-1) 0)+1:Nat):Int)),(11,a9 j)] wr G ⟨rfl,rfl,rfl,rfl,rfl,rfl,up⟩ (bI (a7 ?_))
    have aa:=hI.wr
    have ia:=iT (b:=4294967296) aa ((j+h)-1)
    have jm:=iT (b:=4294967296) aa (j+h)
    by_cases jn:j+h<n+1
    ·have hT:=QR (b:=4294967296) (l:=lr) (i:=(j+h)-1) (i':=j+h) (by omega) (by omega)
     refine a6 (mv 3 G (pu (v:= a9 h) G (aR G G G ((j+h:Nat):Int) (bN (a:=j) (b:=h) G G) (aR G G G (((j+h)-1:Nat):Int) (gI (a:=j+h) (b:=1) G G) (bK G G G bS bM ((j+h)-1) G ⟨Y,(j+h)-1,none⟩ (dN _ _) (aL G G (iA d7 F (by rw [V];omega)) (mv 1 G (a1 (a7 (sr (mv 2 G (pu (v:= a9 h) G (aR G G G ((j+h:Nat):Int) (bN (a:=j) (b:=h) G G) ?_)))))))))))))
     refine mv 1 G (pu (v:= a9 (((n+1):Nat):Int)) G (aA G G G true (dG (a:=j+h) (b:=n+1) G G) (a1 (aY G (a6 (mv 4 G (pu (v:= a9 h) G (aR G G G ((j+h:Nat):Int) (bN (a:=j) (b:=h) G G) (bK G G G bS bM (j+h) G ⟨Y,j+h,none⟩ (dN _ _) (aL G G (iA d7 F (by rw [V];omega)) (aR G G G (((lr.getD (j+h) 0)*4294967296:Nat):Int) (kW (a:=lr.getD (j+h) 0) (b:=4294967296) G G) (aR G G G (((lr.getD ((j+h)-1) 0)+((lr.getD (j+h) 0)*4294967296):Nat):Int) (iD (a:=lr.getD ((j+h)-1) 0) (b:=(lr.getD (j+h) 0)*4294967296) G G) (mv 1 G ?_)))))))))))))
     refine a1 (a7 ?_)
     have aj:=IU dw dg hT
     have ao:nb 4294967296 lr<nb 4294967296 p*4294967296^(j+1):=jL (Nat.le_add_left _ _) hI.lt
     by_cases ck:((lr.getD ((j+h)-1) 0)+((lr.getD (j+h) 0)*4294967296))/((p.getD (h-1) 0)+1)=0
     ·by_cases ai:nb 4294967296 p*4294967296^j≤nb 4294967296 lr
      ·have ak:1*nb 4294967296 p*4294967296^j≤nb 4294967296 lr:=by rw [Nat.one_mul];exact ai
       refine a6 (mv 2 G (aR G G G ((((lr.getD ((j+h)-1) 0)+((lr.getD (j+h) 0)*4294967296))/((p.getD (h-1) 0)+1):Nat):Int) (kB (a:=(lr.getD ((j+h)-1) 0)+((lr.getD (j+h) 0)*4294967296)) (b:=(p.getD (h-1) 0)+1) G G) (mv 1 G (a1 (a7 (sr (mv 1 G (aA G G G true (fM (a:=((lr.getD ((j+h)-1) 0)+((lr.getD (j+h) 0)*4294967296))/((p.getD (h-1) 0)+1)) (b:=0) G G) (a1 (aY G (sr (mv 3 G (cl (vs:= [i9 (some ⟨Y,0,none⟩) (n+1) (n+1),i9 (some ⟨r,0,none⟩) h (m+1),a9 j]) W (vG (b:=true) (F.rd0 aa.wf V (by omega)) ((X.rd0 o.wf Z (by omega)).take (k:=h) (by omega) (by omega) (aX _)) aa (jE o _) (wP hI G o I) (by rw [I,decide_eq_true ai])) G (by kernel_rfl) fun _ _ fp bi M=>?_)))))))))))))
       obtain rfl:=fp
       refine mv 1 G (a1 (a7 (sr (mv 1 G (pu (v:= t9) G (a1 (aN G (aW (aC (a6 (mv 1 G (a1 (a7 ?_)))))))))))))
       refine a6 (mv 4 G ?_)
       have ab:=tF ak ao
       refine d9 G G (vs:= [i9 (some ⟨Y,0,none⟩) (n+1) (n+1),i9 (some ⟨r,0,none⟩) h (m+1),i5 1,a9 j]) (by kernel_rfl) (by decide) (vF (q:=1) (s:=j) (F.ext bi) V aa (((X.ext bi).rd0 o.wf Z (by omega)).take (k:=h) (by omega) (by omega) (aX _)) (jE o _) (fun _ a ha=>by cases ha;show r≠Y;omega) ab (by rw [I];exact ak)) ?_
       rintro _ _ ⟨rfl,bt,l3,ef,dz,ae,H⟩
       rw [I] at H
       refine dA ?_
       have cv:=hI.digit H
       have ag:=bt.ext M bd
       refine a1 (a6 (mv 4 G (bK G G G bS bM j G ⟨E,j,none⟩ (dN _ _) (aL G G (iA d7 ((U.ext bi).vN bt) (by rw [L];omega)) (mv 1 G (aR G G G (((lq.getD j 0)+1:Nat):Int) (iD (a:=lq.getD j 0) (b:=1) G G) (bK G G G bS bM j G ⟨E,j,none⟩ (dN _ _) ?_)))))))
       have fb:=((U.ext bi).vN bt)
       refine d6 G G G bM G fb (gL (by rw [L];omega)) G ((lq.set j ((lq.getD j 0)+1)).map bC) (dP _ _ _) fun fo dr cm _=>?_
       have az:=cm.ext ag av
       refine aS (bG (bW (⟨fo,_,_⟩:a0×List Nat×List Nat) ⟨az,(ef.vN cm),dz,(((X.ext bi).vN bt).vN cm),dr,(iR (l:=lq) (L)),hI.step (by omega) ae H⟩ (wO (aX 1) bu H) G ⟨rfl,rfl,rfl,rfl,rfl,rfl,up⟩))
      ·refine a6 (mv 2 G (aR G G G ((((lr.getD ((j+h)-1) 0)+((lr.getD (j+h) 0)*4294967296))/((p.getD (h-1) 0)+1):Nat):Int) (kB (a:=(lr.getD ((j+h)-1) 0)+((lr.getD (j+h) 0)*4294967296)) (b:=(p.getD (h-1) 0)+1) G G) (mv 1 G (a1 (a7 (sr (mv 1 G (aA G G G true (fM (a:=((lr.getD ((j+h)-1) 0)+((lr.getD (j+h) 0)*4294967296))/((p.getD (h-1) 0)+1)) (b:=0) G G) (a1 (aY G (sr (mv 3 G (cl (vs:= [i9 (some ⟨Y,0,none⟩) (n+1) (n+1),i9 (some ⟨r,0,none⟩) h (m+1),a9 j]) W (vG (b:=false) (F.rd0 aa.wf V (by omega)) ((X.rd0 o.wf Z (by omega)).take (k:=h) (by omega) (by omega) (aX _)) aa (jE o _) (wP hI G o I) (by rw [I,decide_eq_false ai])) G (by kernel_rfl) fun _ ft gf ct M=>?_)))))))))))))
       obtain rfl:=gf
       refine mv 1 G (a1 (a7 (sr (mv 1 G (pu (v:= no) G (a1 (aY G (cN (cI (cI (BE (cL (cM ?_)))))))))))))
       refine bG (aC (a6 (mv 1 G (aR G G G (((j:Nat):Int)-1) (fH G) (mv 1 G (aS (bW (⟨ft,j,_,_,_⟩:a0×Nat×Int×List Nat×List Nat) ⟨M,(by omega),(by omega),(F.ext ct),V,(X.ext ct),(U.ext ct),L,hI.leave ai⟩ (show j<j+1 by omega) G ⟨rfl,rfl,rfl,rfl,rfl,rfl,up⟩)))))))
     ·refine a6 (mv 2 G (aR G G G ((((lr.getD ((j+h)-1) 0)+((lr.getD (j+h) 0)*4294967296))/((p.getD (h-1) 0)+1):Nat):Int) (kB (a:=(lr.getD ((j+h)-1) 0)+((lr.getD (j+h) 0)*4294967296)) (b:=(p.getD (h-1) 0)+1) G G) (mv 1 G (a1 (a7 (sr (mv 1 G (aA G G G false (fT (a:=((lr.getD ((j+h)-1) 0)+((lr.getD (j+h) 0)*4294967296))/((p.getD (h-1) 0)+1)) (b:=0) G G) (a1 (aN G (aW (aC (a7 ?_)))))))))))))
      refine a6 (mv 4 G ?_)
      have ab:=tF aj ao
      refine d9 G G (vs:= [i9 (some ⟨Y,0,none⟩) (n+1) (n+1),i9 (some ⟨r,0,none⟩) h (m+1),i5 ((((lr.getD ((j+h)-1) 0)+((lr.getD (j+h) 0)*4294967296))/((p.getD (h-1) 0)+1):Nat):Int),a9 j]) (by kernel_rfl) (by decide) (vF (q:=((lr.getD ((j+h)-1) 0)+((lr.getD (j+h) 0)*4294967296))/((p.getD (h-1) 0)+1)) (s:=j) F V aa ((X.rd0 o.wf Z (by omega)).take (k:=h) (by omega) (by omega) (aX _)) (jE o _) (fun _ a ha=>by cases ha;show r≠Y;omega) ab (by rw [I];exact aj)) ?_
      rintro _ _ ⟨rfl,cf,l3,ee,fh,ae,H⟩
      rw [I] at H
      refine dA ?_
      have cv:=hI.digit H
      have M:=cf.ext W bd
      refine a1 (a6 (mv 4 G (bK G G G bS bM j G ⟨E,j,none⟩ (dN _ _) (aL G G (iA d7 (U.vN cf) (by rw [L];omega)) (mv 1 G (aR G G G (((lq.getD j 0)+(((lr.getD ((j+h)-1) 0)+((lr.getD (j+h) 0)*4294967296))/((p.getD (h-1) 0)+1)):Nat):Int) (iD (a:=lq.getD j 0) (b:=((lr.getD ((j+h)-1) 0)+((lr.getD (j+h) 0)*4294967296))/((p.getD (h-1) 0)+1)) G G) (bK G G G bS bM j G ⟨E,j,none⟩ (dN _ _) ?_)))))))
      have ea:=(U.vN cf)
      refine d6 G G G bM G ea (gL (by rw [L];omega)) G ((lq.set j ((lq.getD j 0)+(((lr.getD ((j+h)-1) 0)+((lr.getD (j+h) 0)*4294967296))/((p.getD (h-1) 0)+1)))).map bC) (dP _ _ _) fun fx ej da _=>?_
      have ag:=da.ext M av
      refine aS (bG (bW (⟨fx,_,_⟩:a0×List Nat×List Nat) ⟨ag,(ee.vN da),fh,((X.vN cf).vN da),ej,(iR (l:=lq) (L)),hI.step (by omega) ae H⟩ (wO (Nat.pos_of_ne_zero ck) bu H) G ⟨rfl,rfl,rfl,rfl,rfl,rfl,up⟩))
    ·have hT:=G1 (b:=4294967296) (l:=lr) (i:=(j+h)-1) (by omega)
     refine a6 (mv 3 G (pu (v:= a9 h) G (aR G G G ((j+h:Nat):Int) (bN (a:=j) (b:=h) G G) (aR G G G (((j+h)-1:Nat):Int) (gI (a:=j+h) (b:=1) G G) (bK G G G bS bM ((j+h)-1) G ⟨Y,(j+h)-1,none⟩ (dN _ _) (aL G G (iA d7 F (by rw [V];omega)) (mv 1 G (a1 (a7 (sr (mv 2 G (pu (v:= a9 h) G (aR G G G ((j+h:Nat):Int) (bN (a:=j) (b:=h) G G) ?_)))))))))))))
     refine mv 1 G (pu (v:= a9 (((n+1):Nat):Int)) G (aA G G G false (cW (a:=j+h) (b:=n+1) G G) (a1 (aN G (aW (aC (a7 ?_)))))))
     have aj:=IU dw dg hT
     have ao:nb 4294967296 lr<nb 4294967296 p*4294967296^(j+1):=jL (Nat.le_add_left _ _) hI.lt
     by_cases ck:(lr.getD ((j+h)-1) 0)/((p.getD (h-1) 0)+1)=0
     ·by_cases ai:nb 4294967296 p*4294967296^j≤nb 4294967296 lr
      ·have ak:1*nb 4294967296 p*4294967296^j≤nb 4294967296 lr:=by rw [Nat.one_mul];exact ai
       refine a6 (mv 2 G (aR G G G (((lr.getD ((j+h)-1) 0)/((p.getD (h-1) 0)+1):Nat):Int) (kB (a:=lr.getD ((j+h)-1) 0) (b:=(p.getD (h-1) 0)+1) G G) (mv 1 G (a1 (a7 (sr (mv 1 G (aA G G G true (fM (a:=(lr.getD ((j+h)-1) 0)/((p.getD (h-1) 0)+1)) (b:=0) G G) (a1 (aY G (sr (mv 3 G (cl (vs:= [i9 (some ⟨Y,0,none⟩) (n+1) (n+1),i9 (some ⟨r,0,none⟩) h (m+1),a9 j]) W (vG (b:=true) (F.rd0 aa.wf V (by omega)) ((X.rd0 o.wf Z (by omega)).take (k:=h) (by omega) (by omega) (aX _)) aa (jE o _) (wP hI G o I) (by rw [I,decide_eq_true ai])) G (by kernel_rfl) fun _ _ iz bm M=>?_)))))))))))))
       obtain rfl:=iz
       refine mv 1 G (a1 (a7 (sr (mv 1 G (pu (v:= t9) G (a1 (aN G (aW (aC (a6 (mv 1 G (a1 (a7 ?_)))))))))))))
       refine a6 (mv 4 G ?_)
       have ab:=tF ak ao
       refine d9 G G (vs:= [i9 (some ⟨Y,0,none⟩) (n+1) (n+1),i9 (some ⟨r,0,none⟩) h (m+1),i5 1,a9 j]) (by kernel_rfl) (by decide) (vF (q:=1) (s:=j) (F.ext bm) V aa (((X.ext bm).rd0 o.wf Z (by omega)).take (k:=h) (by omega) (by omega) (aX _)) (jE o _) (fun _ a ha=>by cases ha;show r≠Y;omega) ab (by rw [I];exact ak)) ?_
       rintro _ _ ⟨rfl,ce,l3,fe,dt,ae,H⟩
       rw [I] at H
       refine dA ?_
       have cv:=hI.digit H
       have ag:=ce.ext M bd
       refine a1 (a6 (mv 4 G (bK G G G bS bM j G ⟨E,j,none⟩ (dN _ _) (aL G G (iA d7 ((U.ext bm).vN ce) (by rw [L];omega)) (mv 1 G (aR G G G (((lq.getD j 0)+1:Nat):Int) (iD (a:=lq.getD j 0) (b:=1) G G) (bK G G G bS bM j G ⟨E,j,none⟩ (dN _ _) ?_)))))))
       have eg:=((U.ext bm).vN ce)
       refine d6 G G G bM G eg (gL (by rw [L];omega)) G ((lq.set j ((lq.getD j 0)+1)).map bC) (dP _ _ _) fun fm dm df _=>?_
       have az:=df.ext ag av
       refine aS (bG (bW (⟨fm,_,_⟩:a0×List Nat×List Nat) ⟨az,(fe.vN df),dt,(((X.ext bm).vN ce).vN df),dm,(iR (l:=lq) (L)),hI.step (by omega) ae H⟩ (wO (aX 1) bu H) G ⟨rfl,rfl,rfl,rfl,rfl,rfl,up⟩))
      ·refine a6 (mv 2 G (aR G G G (((lr.getD ((j+h)-1) 0)/((p.getD (h-1) 0)+1):Nat):Int) (kB (a:=lr.getD ((j+h)-1) 0) (b:=(p.getD (h-1) 0)+1) G G) (mv 1 G (a1 (a7 (sr (mv 1 G (aA G G G true (fM (a:=(lr.getD ((j+h)-1) 0)/((p.getD (h-1) 0)+1)) (b:=0) G G) (a1 (aY G (sr (mv 3 G (cl (vs:= [i9 (some ⟨Y,0,none⟩) (n+1) (n+1),i9 (some ⟨r,0,none⟩) h (m+1),a9 j]) W (vG (b:=false) (F.rd0 aa.wf V (by omega)) ((X.rd0 o.wf Z (by omega)).take (k:=h) (by omega) (by omega) (aX _)) aa (jE o _) (wP hI G o I) (by rw [I,decide_eq_false ai])) G (by kernel_rfl) fun _ gj ge de M=>?_)))))))))))))
       obtain rfl:=ge
       refine mv 1 G (a1 (a7 (sr (mv 1 G (pu (v:= no) G (a1 (aY G (cN (cI (cI (BE (cL (cM ?_)))))))))))))
       refine bG (aC (a6 (mv 1 G (aR G G G (((j:Nat):Int)-1) (fH G) (mv 1 G (aS (bW (⟨gj,j,_,_,_⟩:a0×Nat×Int×List Nat×List Nat) ⟨M,(by omega),(by omega),(F.ext de),V,(X.ext de),(U.ext de),L,hI.leave ai⟩ (show j<j+1 by omega) G ⟨rfl,rfl,rfl,rfl,rfl,rfl,up⟩)))))))
     ·refine a6 (mv 2 G (aR G G G (((lr.getD ((j+h)-1) 0)/((p.getD (h-1) 0)+1):Nat):Int) (kB (a:=lr.getD ((j+h)-1) 0) (b:=(p.getD (h-1) 0)+1) G G) (mv 1 G (a1 (a7 (sr (mv 1 G (aA G G G false (fT (a:=(lr.getD ((j+h)-1) 0)/((p.getD (h-1) 0)+1)) (b:=0) G G) (a1 (aN G (aW (aC (a7 ?_)))))))))))))
      refine a6 (mv 4 G ?_)
      have ab:=tF aj ao
      refine d9 G G (vs:= [i9 (some ⟨Y,0,none⟩) (n+1) (n+1),i9 (some ⟨r,0,none⟩) h (m+1),i5 (((lr.getD ((j+h)-1) 0)/((p.getD (h-1) 0)+1):Nat):Int),a9 j]) (by kernel_rfl) (by decide) (vF (q:=(lr.getD ((j+h)-1) 0)/((p.getD (h-1) 0)+1)) (s:=j) F V aa ((X.rd0 o.wf Z (by omega)).take (k:=h) (by omega) (by omega) (aX _)) (jE o _) (fun _ a ha=>by cases ha;show r≠Y;omega) ab (by rw [I];exact aj)) ?_
      rintro _ _ ⟨rfl,bo,l3,fd,du,ae,H⟩
      rw [I] at H
      refine dA ?_
      have cv:=hI.digit H
      have M:=bo.ext W bd
      refine a1 (a6 (mv 4 G (bK G G G bS bM j G ⟨E,j,none⟩ (dN _ _) (aL G G (iA d7 (U.vN bo) (by rw [L];omega)) (mv 1 G (aR G G G (((lq.getD j 0)+((lr.getD ((j+h)-1) 0)/((p.getD (h-1) 0)+1)):Nat):Int) (iD (a:=lq.getD j 0) (b:=(lr.getD ((j+h)-1) 0)/((p.getD (h-1) 0)+1)) G G) (bK G G G bS bM j G ⟨E,j,none⟩ (dN _ _) ?_)))))))
      have dy:=(U.vN bo)
      refine d6 G G G bM G dy (gL (by rw [L];omega)) G ((lq.set j ((lq.getD j 0)+((lr.getD ((j+h)-1) 0)/((p.getD (h-1) 0)+1)))).map bC) (dP _ _ _) fun iu dx dd _=>?_
      have ag:=dd.ext M av
      refine aS (bG (bW (⟨iu,_,_⟩:a0×List Nat×List Nat) ⟨ag,(fd.vN dd),du,((X.vN bo).vN dd),dx,(iR (l:=lq) (L)),hI.step (by omega) ae H⟩ (wO (Nat.pos_of_ne_zero ck) bu H) G ⟨rfl,rfl,rfl,rfl,rfl,rfl,up⟩))
   ·obtain rfl:k=0:=by omega
    refine a6 (mv 1 G (aA G G G false (eF) (a1 (aN G (cN (cI (cL (cM (aC (sr (mv 1 G (a1 (a7 ?_)))))))))))))
    refine sr (mv 1 G (pu (v:= a9 (((n+1):Nat):Int)) G (aR G G G (((n+1)-1:Nat):Int) (gI (a:=n+1) (b:=1) G G) (mv 1 G (a1 (bI ?_))))))
    refine cU (T:=a0×Nat×Int×Nat×List Nat)
     (fun⟨wr,k,ii,rest,l⟩=> [(6,i5 f),(7,i9 (some ⟨Y,0,none⟩) (n+1) (n+1)),(9,i9 (some ⟨E,0,none⟩) ((n-m)+1) ((n-m)+1)),(15,i5 rest),(16,a9 ii)])
     (fun⟨wr,k,ii,rest,l⟩=>wr)
     (fun⟨wr,k,ii,rest,l⟩=>(Ext w wr)∧(k≤n+1)∧(ii=(k:Int)-1)∧(Bk wr Y 65 (l.map bC))∧(Bk wr E 65 (lq.map bC))∧(DF f lr k rest l))
     (fun⟨wr,k,ii,rest,l⟩=>k)
     (⟨wr,n+1,_,0,lr⟩:a0×Nat×Int×Nat×List Nat) ⟨W,aX _,(by omega),F,U,DF.start hO.wr bv V⟩ G ⟨rfl,rfl,rfl,rfl,rfl,up⟩ ?_
    rintro⟨wr,k,ii,rest,l⟩ ⟨W,hk,ir,F,U,hF⟩
    refine cR [(6,i5 f),(7,i9 (some ⟨Y,0,none⟩) (n+1) (n+1)),(9,i9 (some ⟨E,0,none⟩) ((n-m)+1) ((n-m)+1)),(15,i5 rest),(16,a9 ii)] wr G ⟨rfl,rfl,rfl,rfl,rfl,up⟩ ?_
    have bh:=hF.len
    rw [V] at bh
    refine a7 (a7 ?_)
    by_cases io:0<k
    ·obtain⟨j,rfl⟩:∃j,k=j+1:=⟨k-1,by omega⟩
     obtain rfl:ii=(j:Int):=by omega
     refine a6 (mv 1 G (aA G G G true (fY (a:=j) (b:=0) G G) (a1 (aY G (aW (aC (a7 (bI (a7 ?_)))))))))
     have ez:=hF.digit
     have ia:=iT (b:=4294967296) hF.wf j
     have jv:=hF.rf
     refine a6 (mv 1 G (aR G G G ((rest*4294967296:Nat):Int) (kW (a:=rest) (b:=4294967296) G G) (mv 2 G (bK G G G bS bM j G ⟨Y,j,none⟩ (dN _ _) (aL G G (iA d7 F (by rw [bh];omega)) (aR G G G (((rest*4294967296)+(l.getD j 0):Nat):Int) (iD (a:=rest*4294967296) (b:=l.getD j 0) G G) (mv 1 G (a1 (sr (mv 4 G (aR G G G ((((rest*4294967296)+(l.getD j 0))/f:Nat):Int) (kB (a:=(rest*4294967296)+(l.getD j 0)) (b:=f) G G) (bK G G G bS bM j G ⟨Y,j,none⟩ (dN _ _) ?_))))))))))))
     have dh:=F
     refine d6 G G G bM G dh (gL (by rw [bh];omega)) G ((l.set j (((rest*4294967296)+(l.getD j 0))/f)).map bC) (dP _ _ _) fun gg ey fk _=>?_
     have M:=fk.ext W bd
     refine a1 (a6 (mv 2 G (aR G G G ((((rest*4294967296)+(l.getD j 0))%f:Nat):Int) (kV (a:=(rest*4294967296)+(l.getD j 0)) (b:=f) G G) (mv 1 G (aS (bG (aC (a6 (mv 1 G (aR G G G (((j:Nat):Int)-1) (fH G) (mv 1 G (aS (bW (⟨gg,j,_,_,_⟩:a0×Nat×Int×Nat×List Nat) ⟨M,(by omega),rfl,ey,(U.vN fk),hF.step (by omega) ez bv⟩ (show j<j+1 by omega) G ⟨rfl,rfl,rfl,rfl,rfl,up⟩)))))))))))))
    ·obtain rfl:k=0:=by omega
     refine a6 (mv 1 G (aA G G G false (eF) (a1 (aN G (cN (cI (cL (cM (aC (sr (mv 1 G (cl (vs:= [i9 (some ⟨E,0,none⟩) ((n-m)+1) ((n-m)+1)]) W (qL (U.rd0 hO.wq.wf L (by omega))) G (by kernel_rfl) fun _ _ fq cj M=>?_))))))))))))
     obtain⟨fw,rfl,el,ei,fj⟩:=fq
     refine mv 1 G (cl (vs:= [i9 (some ⟨Y,0,none⟩) (n+1) (n+1)]) M (qL ((F.ext cj).rd0 hF.wf.wf bh (by omega))) G (by kernel_rfl) fun _ _ ix ep ag=>?_)
     obtain⟨fy,rfl,ew,fg,eh⟩:=ix
     refine mv 2 G (a1 (aU (aT [i9 (some ⟨E,0,none⟩) fw ((n-m)+1),i9 (some ⟨Y,0,none⟩) fy (n+1)] G ⟨rfl,rfl,up⟩ ?_)))
     obtain⟨e1,e2⟩:=V3 hO hD hF
     refine⟨_,rfl,⟨_,_,rfl,⟨_,_,_,rfl,?_⟩,⟨_,_,_,rfl,?_⟩⟩,ag⟩
     ·rw [←e1];exact ((U.ext (cj.t ep)).rd0 hO.wq.wf L (by omega)).trim hO.wq el ei fj
     ·rw [←e2];exact ((F.ext (cj.t ep)).rd0 hF.wf.wf bh (by omega)).trim hF.wf ew fg eh
theorem F3 (hb:b≤w.heap.size)(hx:Rd w A n cap (db 4294967296 m))(hln:n≤1099511627776):aQ aH 231 #[i9 A n cap] w (Gv w (WR b m)):=by
 have h:=PF hx hln (kX kA _)
 rw [iO kA] at h
 exact h.mono (Gv.imp (WR.imp hb))
theorem PH (hx:Rd w A n cap (db 4294967296 X))(hln:n≤274877906944)(hy:Rd w D m cd (db 4294967296 Y))(hlm:m≤274877906944)(hY:Y≠0):aQ aH 230 #[i9 A n cap,i9 D m cd] w (Gv w (T2 (WD (X/Y)) (WD (X%Y)))):=by
 have hl:=hx.len
 have f:=hy.len
 have h1:=wU kA X
 have h2:=wU kA Y
 rw [hl] at h1
 rw [f] at h2
 have o:0<m:=by
  refine Nat.pos_of_ne_zero fun e=>hY ?_
  rw [←rA kA (n:=Y),f,e]
 have h:=PI hx hln hy hlm (kX kA _) (kX kA _) h1 o (by omega)
 rw [iO kA,iO kA] at h
 exact h
theorem RI (h:Wf xs):(db 4294967296 (nv xs)).length≤2*xs.length:=by
 refine jI kA ?_
 have:=iY h
 rwa [tO,←Nat.pow_mul] at this
theorem Rd.hl {n0 c0:Nat}(h:Rd w A k c (db 4294967296 m))(hx:Rd w0 A0 n0 c0 xs)(hm:m≤nv xs):k≤2*n0:=by
 have h1:=h.len
 have h2:=RI hx.wf
 rw [hx.len] at h2
 have e:=AX kA hm
 omega
theorem PJ {ys:List Nat}(hx:Rd w A n cap xs)(hln:n≤137438953472)(hy:Rd w D m cd ys)(hlm:m≤137438953472)(hy0:nv ys≠0):aQ aH 190 #[i9 A n cap,i9 D m cd] w (Gv w (T3 (WR w.heap.size (nv xs/nv ys)) (WR w.heap.size (nv xs%nv ys)) (Is (a9 0)))):=by
 refine bL Tryz.func190 G (n:=28) G (bq G) (args:= [i9 A n cap,i9 D m cd]) (bF [(0,i9 A n cap),(1,i9 D m cd)] ⟨rfl,rfl,up⟩ (sr (mv 3 G (a1 (sr (mv 1 G (cl (vs:= [i9 D m cd]) (Ext.refl w) (zN hy) G (by kernel_rfl) fun _ _ r3 e2 Z=>?_)))))))
 obtain⟨A4,U,c4,rfl,o⟩:=r3
 refine mv 1 G (a1 (a7 (a7 ?_)))
 have bt:=o.hl hy (aX _)
 have ab:=o.len
 have bf:U≠0:=fun e=>hy0 (by rw [←rA kA (n:=nv ys),ab,e])
 refine a6 (mv 1 G (pu (v:= a9 U) G (aA G G G false (fT (a:=U) (b:=0) G G) (a1 (aN G (aW (aC (sr (mv 1 G (cl (vs:= [i9 A n cap]) Z (zN (hx.ext e2)) G (by kernel_rfl) fun _ _ r7 e6 ak=>?_))))))))))
 obtain⟨A8,n8,c8,rfl,E⟩:=r7
 refine mv 1 G (a1 (a7 ?_))
 have az:=E.hl hx (aX _)
 refine a6 (mv 2 G (cl (vs:= [i9 A8 n8 c8,i9 A4 U c4]) ak (PH E (by omega) (o.ext e6) (by omega) hy0) G (by kernel_rfl) fun _ _ aq _ I=>?_))
 obtain⟨_,_,rfl,⟨H,r,M,rfl,f⟩,⟨L,p,F,rfl,h⟩⟩:=aq
 refine mv 1 G (pu (v:= i9 H r M) G (pu (v:= i9 L p F) G (mv 2 G (a1 (a7 ?_)))))
 have ba:=f.hl hx (eR _ _)
 have aw:=h.hl hx (Nat.mod_le _ _)
 refine a6 (mv 1 G (cl (vs:= [i9 H r M]) I (F3 I.size f (by omega)) G (by kernel_rfl) fun _ _ ah ar q=>?_))
 obtain⟨Y,aj,am,rfl,ae,av⟩:=ah
 refine mv 1 G (cl (vs:= [i9 L p F]) q (F3 q.size (h.ext ar) (by omega)) G (by kernel_rfl) fun _ _ ai X aa=>?_)
 obtain⟨ag,au,ao,rfl,V,W⟩:=ai
 refine mv 3 G (a1 (aU (aT [i9 Y aj am,i9 ag au ao,I0] G ⟨rfl,rfl,rfl,up⟩ ?_)))
 exact⟨_,rfl,⟨_,_,_,rfl,⟨_,_,_,rfl,ae,(av.ext X)⟩,⟨_,_,_,rfl,V,W⟩,rfl⟩,aa⟩
theorem PK {xs ys:List Nat}(hy:Rd w D m cd ys)(hlm:m≤137438953472)(hy0:nv ys=0):aQ aH 190 #[i9 A n cap,i9 D m cd] w (Gv w (Is (.tuple #[i9 none 0 0,i9 none 0 0,a9 4]))):=by
 refine bL Tryz.func190 G (n:=28) G (bq G) (args:= [i9 A n cap,i9 D m cd]) (bF [(0,i9 A n cap),(1,i9 D m cd)] ⟨rfl,rfl,up⟩ (sr (mv 3 G (a1 (sr (mv 1 G (cl (vs:= [i9 D m cd]) (Ext.refl w) (zN hy) G (by kernel_rfl) fun _ _ p _ h=>?_)))))))
 obtain⟨_,o,_,rfl,e⟩:=p
 refine mv 1 G (a1 (a7 (a7 ?_)))
 have q:=e.hl hy (aX _)
 have f:=e.len
 rw [hy0,jK] at f
 simp only [List.length_nil] at f
 refine a6 (mv 1 G (pu (v:= a9 o) G (aA G G G true (fM (a:=o) (b:=0) G G) (a1 (aY G (sr (mv 3 G (a1 (aU (bU (aT [S0,S0,a9 4] G ⟨rfl,rfl,rfl,up⟩ ?_)))))))))))
 exact⟨_,rfl,rfl,h⟩
theorem Zi.sg (h:Zi w s A n cap z):Go.Proofs.YtkepckmdjncehaaGreatDoor.sg s z.natAbs=z:=by
 obtain⟨xs,_,rfl⟩:=h
 rw [kP]
theorem GL (h:ln x=0):x=0:=by
 have:=lB.1 (show (wd x.natAbs).length=0 from h)
 omega
theorem i0 (s:Bool)(m:Nat):ln (sg s m)=(wd m).length:=by unfold ln;rw [kP]
theorem uS (h:x<y):bH x y= -1:=by unfold bH;rw [if_pos h]
theorem uQ (h:y<x):bH x y=1:=by unfold bH;rw [if_neg (by omega),if_neg (by omega)]
theorem NK (h:x=y):bH x y=0:=qJ.2 h
theorem NU (h:bH x 0<bH y 0):bH x y= -1:=uS (by unfold bH at h;split at h <;> split at h <;> (try split at h) <;> omega)
theorem NW (h:bH y 0<bH x 0):bH x y=1:=uQ (by unfold bH at h;split at h <;> split at h <;> (try split at h) <;> omega)
theorem NM (h:bH x 0=bH y 0):bH x 0*cX (Int.natAbs x) (Int.natAbs y)=bH x y:=by
 rcases Int.lt_trichotomy x 0 with hx | hx | hx
 ·have e:y<0:=oV.1 (by rw [←h,uS hx];decide)
  rw [uS hx]
  unfold bH cX
  by_cases h1:x<y
  ·rw [if_neg (by omega),if_neg (by omega),if_pos h1];rfl
  ·by_cases h2:x=y
   ·rw [if_neg (by omega),if_pos (by omega),if_neg h1,if_pos h2];rfl
   ·rw [if_pos (by omega),if_neg h1,if_neg h2];rfl
 ·subst hx
  have e:y=0:=qJ.1 (by rw [←h];rfl)
  subst e;rfl
 ·have e:0<y:=zE.1 (by rw [←h,uQ hx];decide)
  rw [uQ hx,Int.one_mul]
  unfold bH cX
  by_cases h1:x<y
  ·rw [if_pos (by omega),if_pos h1]
  ·by_cases h2:x=y
   ·rw [if_neg (by omega),if_pos (by omega),if_neg h1,if_pos h2]
   ·rw [if_neg (by omega),if_neg (by omega),if_neg h1,if_neg h2]
theorem JD {x y:Nat}(h:y≤x):cV .geq (cX x y) 0=some true:=by
 have e:¬cX x y<0:=fun e=>by have:=lF.1 e;omega
 exact pG (by omega)
theorem JE {x y:Nat}(h:¬y≤x):cV .geq (cX x y) 0=some false:=by
 have e:=lF.2 (show x<y by omega)
 exact eF
section
variable {w:a0}{A B:Option a8}{n cap m cap' i j:Nat}
theorem U2 (hb:b≤w.heap.size)(hx:Wi w A n cap i)(hl:n≤68719476735):aQ aH 180 #[i9 A n cap] w (Gv w (WR b i)):=by
 obtain⟨xs,h1,rfl⟩:=hx
 exact (PO h1 (by omega)).mono (gw hb)
theorem II (hb:b≤w.heap.size)(hx:Wi w A n cap i)(hl:n≤68719476735)(hy:Wi w B m cap' j)(hl':m≤68719476735):aQ aH 129 #[i9 A n cap,i9 B m cap'] w (Gv w (WR b (i+j))):=by
 obtain⟨xs,h1,rfl⟩:=hx
 obtain⟨ys,h2,rfl⟩:=hy
 exact (PQ h1 (by omega) h2 (by omega)).mono (gw hb)
theorem tD (hx:Wi w A n cap i)(hl:n≤68719476735)(hy:Wi w B m cap' j)(hl':m≤68719476735):aQ aH 128 #[i9 A n cap,i9 B m cap'] w (Gv w (Is (a9 (cX i j)))):=by
 obtain⟨xs,h1,rfl⟩:=hx
 obtain⟨ys,h2,rfl⟩:=hy
 exact (PP h1 (by omega) h2 (by omega)).mono HU
theorem wL (hb:b≤w.heap.size)(hx:Wi w A n cap i)(hl:n≤68719476735)(hy:Wi w B m cap' j)(hl':m≤68719476735)(hij:j≤i):aQ aH 130 #[i9 A n cap,i9 B m cap'] w (Gv w (T2 (WR b (i-j)) (Is (a9 0)))):=by
 obtain⟨xs,h1,rfl⟩:=hx
 obtain⟨ys,h2,rfl⟩:=hy
 exact (PN h1 (by omega) h2 (by omega) hij).mono (Gv.imp (T2.imp (WR.imp hb) Is.imp))
theorem IE (hb:b≤w.heap.size)(hx:Wi w A n cap i)(hl:n≤68719476735)(hy:Wi w B m cap' j)(hl':m≤68719476735):aQ aH 131 #[i9 A n cap,i9 B m cap'] w (Gv w (WR b (i*j))):=by
 obtain⟨xs,h1,rfl⟩:=hx
 obtain⟨ys,h2,rfl⟩:=hy
 exact (PM h1 hl h2 hl').mono (gw hb)
theorem TX (hb:b≤w.heap.size)(hx:Wi w A n cap i)(hl:n≤68719476735)(hy:Wi w B m cap' j)(hl':m≤68719476735)(h0:j≠0):aQ aH 190 #[i9 A n cap,i9 B m cap'] w (Gv w (T3 (WR b (i/j)) (WR b (i%j)) (Is (a9 0)))):=by
 obtain⟨xs,h1,rfl⟩:=hx
 obtain⟨ys,h2,rfl⟩:=hy
 exact (PJ h1 (by omega) h2 (by omega) h0).mono (Gv.imp (T3.imp (WR.imp hb) (WR.imp hb) Is.imp))
theorem TW (hy:Wi w B m cap' j)(hl':m≤68719476735)(h0:j=0):aQ aH 190 #[i9 A n cap,i9 B m cap'] w (Gv w (Is (.tuple #[i9 none 0 0,i9 none 0 0,a9 4]))):=by
 obtain⟨ys,h2,rfl⟩:=hy
 exact PK (xs:= []) h2 (by omega) h0
end
theorem iS (hb:b≤w.heap.size)(hx:Wi w A n cap m)(hl:n≤68719476735):aQ aH 127 #[.bool s,i9 A n cap] w (Gv w (ZR b (sg s m))):=by
 refine Calls.mono (R:=Gv w (ZR w.heap.size (sg s m))) ?_ (Gv.imp (ZR.imp hb))
 refine bL Tryz.func127 G (n:=16) G (bq G) (args:= (O s A n cap)) (bF [(0,.bool s),(1,i9 A n cap)] ⟨rfl,rfl,up⟩ (sr (al [F0,S0] (Ext.refl w) (fun _=>by kernel_rfl) G fun _ _ F I _ L=>(a1 (sr (mv 1 G (cl (vs:= [i9 A n cap]) L (U2 L.size (hx.ext L) (aO hl G)) G (by kernel_rfl) fun _ _ r8 Y H=>?_)))))))
 obtain⟨h,f,o,rfl,M,o9⟩:=r8
 refine mv 1 G (a1 (a7 ?_))
 by_cases hs:s=true
 ·subst hs
  by_cases q:m=0
  ·have aa:f=0:=by rw [M,q,mL];rfl
   refine a6 (mv 3 G (pu (v:= a9 f) G (aA G G G false (pF) (pu (v:= t9) G (mv 1 G (pu (v:= .agg #[F0,i9 h f o]) G ?_))))))
   have E:=(F.ext Y)
   refine so aB E [F0,i9 h f o] H I G G G G fun _ U Z p=>(a1 (aU (aT [.agg #[F0,i9 h f o]] G ⟨⟨_,rfl,bA aB U [F0,i9 h f o] G (bq G) rfl⟩,up⟩ ?_)))
   exact⟨_,rfl,⟨_,_,_,_,rfl,((j1 (m:=m) (s:=true) (z:=sg true m) (by rw [sK,q];rfl) M o9 G).updT E Z)⟩,p⟩
  ·have aa:f≠0:=fun e=>q (lB.1 (by rw [←M,e]))
   refine a6 (mv 3 G (pu (v:= a9 f) G (aA G G G true (lC) (pu (v:= no) G (mv 1 G (pu (v:= J true h f o) G ?_))))))
   have D:=(F.ext Y)
   refine so aB D (O true h f o) H I G G G G fun _ V ae p=>(a1 (aU (aT [J true h f o] G ⟨⟨_,rfl,bA aB V (O true h f o) G (bq G) rfl⟩,up⟩ ?_)))
   exact⟨_,rfl,⟨_,_,_,_,rfl,((j1 (m:=m) (s:=true) (z:=sg true m) (by rw [sK,decide_eq_true (Nat.pos_of_ne_zero q)];rfl) M o9 G).updT D ae)⟩,p⟩
 ·replace hs:s=false:=by simpa using hs
  subst hs
  refine a6 (mv 5 G (pu (v:= t9) G (mv 1 G (pu (v:= .agg #[F0,i9 h f o]) G ?_))))
  have r:=(F.ext Y)
  refine so aB r [F0,i9 h f o] H I G G G G fun _ W X p=>(a1 (aU (aT [.agg #[F0,i9 h f o]] G ⟨⟨_,rfl,bA aB W [F0,i9 h f o] G (bq G) rfl⟩,up⟩ ?_)))
  exact⟨_,rfl,⟨_,_,_,_,rfl,((j1 (m:=m) (s:=false) (z:=sg false m) (by rw [sK];rfl) M o9 G).updT r X)⟩,p⟩
theorem B5 (hb:b≤w.heap.size)(hx:Zi w sa Aa na ca x)(la:na≤17179869183):aQ aH 41 #[J sa Aa na ca] w (Gv w (ZR b (x))):=by
 refine Calls.mono (R:=Gv w (ZR w.heap.size (x))) ?_ (Gv.imp (ZR.imp hb))
 have Lx:ln x≤17179869183:=aE hx.ln la
 refine bL Tryz.func41 G (n:=8) G (bq G) (args:= [J sa Aa na ca]) (bF [(0,J sa Aa na ca)] ⟨rfl,up⟩ (sr (bx (O sa Aa na ca) (Ext.refl w) G G G fun X _ o _ _ W=>(cO [F0,S0] W o.lt (fun _=>by kernel_rfl) G fun _ _ U E _ Y p=>(a1 (sr (pf X 0 G (aL G G (aP dB (o.ext Y) G) (pf X 1 G (aL G G (aP bX (o.ext Y) G) ?_))))))))))
 have Z:ln (sg sa (Int.natAbs x))≤17179869183:=by rw [i0];exact Lx
 refine cl (vs:= (O sa Aa na ca)) p (iS p.size (hx.ext p).wi (aO la G)) G (by kernel_rfl) fun _ _ L M I=>?_
 obtain⟨h,q,r,f,rfl,F⟩:=L
 have e:=(U.ext M)
 refine so aB e (O h q r f) I E G G G G fun _ D V H=>(a1 (aU (aT [J h q r f] G ⟨⟨_,rfl,bA aB D (O h q r f) G (bq G) rfl⟩,up⟩ ?_)))
 exact⟨_,rfl,⟨_,_,_,_,rfl,((F.updT e V)).cast (hx.sg)⟩,H⟩
theorem wK (hb:b≤w.heap.size)(hx:Zi w sa Aa na ca x)(la:na≤17179869183):aQ aH 48 #[J sa Aa na ca] w (Gv w (ZR b ((Int.natAbs x:Int)))):=by
 refine Calls.mono (R:=Gv w (ZR w.heap.size ((Int.natAbs x:Int)))) ?_ (Gv.imp (ZR.imp hb))
 have Lx:ln x≤17179869183:=aE hx.ln la
 refine bL Tryz.func48 G (n:=6) G (bq G) (args:= [J sa Aa na ca]) (bF [(0,J sa Aa na ca)] ⟨rfl,up⟩ (sr (bx (O sa Aa na ca) (Ext.refl w) G G G fun X _ r _ _ W=>(cO [F0,S0] W r.lt (fun _=>by kernel_rfl) G fun _ _ U E _ Z o=>(a1 (sr (pf X 1 G (aL G G (aP bX (r.ext Z) G) ?_))))))))
 have Y:ln (sg false (Int.natAbs x))≤17179869183:=by rw [i0];exact Lx
 refine cl (vs:= [F0,i9 Aa na ca]) o (iS o.size (hx.ext o).wi (aO la G)) G (by kernel_rfl) fun _ _ L M I=>?_
 obtain⟨h,p,q,f,rfl,F⟩:=L
 have e:=(U.ext M)
 refine so aB e (O h p q f) I E G G G G fun _ D V H=>(a1 (aU (aT [J h p q f] G ⟨⟨_,rfl,bA aB D (O h p q f) G (bq G) rfl⟩,up⟩ ?_)))
 exact⟨_,rfl,⟨_,_,_,_,rfl,((F.updT e V)).cast (G)⟩,H⟩
theorem jJ (hx:Zi w sa Aa na ca x)(la:na≤17179869183):aQ aH 44 #[J sa Aa na ca] w (Gv w (Is (a9 (bH x 0)))):=by
 have Lx:ln x≤17179869183:=aE hx.ln la
 refine bL Tryz.func44 G (n:=12) G (bq G) (args:= [J sa Aa na ca]) (bF [(0,J sa Aa na ca)] ⟨rfl,up⟩ (sr (bx (O sa Aa na ca) (Ext.refl w) G G G fun _ _ L _ _ D=>(mv 1 G (a1 (sr (lo aB L (O sa Aa na ca) G G G (cl (vs:= [J sa Aa na ca]) D (B5 D.size (hx.ext D) (aO la G)) G (by kernel_rfl) fun _ _ r8 Z Y=>?_))))))))
 obtain⟨X,A9,H,c9,rfl,U⟩:=r8
 refine cO [F0,S0] Y (L.ext Z).lt (fun _=>by kernel_rfl) G fun o _ h I _ r W=>(so aB h (O X A9 H c9) W I G G G G fun _ f E p=>(a1 (a7 (a7 ?_))))
 by_cases F:x<0
 ·obtain rfl:X=true:=by rw [(((U.ext r).updT h E)).sgn];exact decide_eq_true F
  refine a6 (pf o 0 G (aL G G (aP dB f G) (a1 (aY G (sr (mv 1 G (a1 (aU (bU (aT [a9 (-1)] G ⟨rfl,up⟩ ?_))))))))))
  exact⟨_,rfl,(show (a9 (-1):aD)=d8 .i64 (bH x 0) by rw [uS F]),p⟩
 ·obtain rfl:X=false:=by rw [(((U.ext r).updT h E)).sgn];exact decide_eq_false F
  have M:H=ln x:=(((U.ext r).updT h E)).len
  by_cases q:x=0
  ·have V:H=0:=by rw [M,q];rfl
   refine a6 (pf o 0 G (aL G G (aP dB f G) (a1 (aN G (aW (aC (a7 (sr (pf o 1 G (aL G G (aP bX f G) (pu (v:= a9 H) G (aA G G G false (pF) (aS ?_)))))))))))))
   refine aC (aN G (aW (aC (sr (mv 1 G (a1 (aU (aT [I0] G ⟨rfl,up⟩ ?_))))))))
   exact⟨_,rfl,(show (a9 0:aD)=d8 .i64 (bH x 0) by rw [NK q]),p⟩
  ·have V:H≠0:=fun e=>q (GL (by rw [←M,e]))
   refine a6 (pf o 0 G (aL G G (aP dB f G) (a1 (aN G (aW (aC (a7 (sr (pf o 1 G (aL G G (aP bX f G) (pu (v:= a9 H) G (aA G G G true (lC) (aS ?_)))))))))))))
   refine aC (aY G (sr (mv 1 G (a1 (aU (bU (aT [a9 1] G ⟨rfl,up⟩ ?_)))))))
   exact⟨_,rfl,(show (a9 1:aD)=d8 .i64 (bH x 0) by rw [uQ (by omega)]),p⟩
theorem wJ {nb:Nat}(hx:Zi w sa Aa na ca x)(la:na≤17179869183)(hy:Zi w sb Ab nb cb y)(lb:nb≤17179869183):aQ aH 46 #[J sa Aa na ca,J sb Ab nb cb] w (Gv w (Is (a9 (cX (Int.natAbs x) (Int.natAbs y))))):=by
 have Lx:ln x≤17179869183:=aE hx.ln la
 have Ly:ln y≤17179869183:=aE hy.ln lb
 refine bL Tryz.func46 G (n:=10) G (bq G) (args:= [J sa Aa na ca,J sb Ab nb cb]) (bF [(0,J sa Aa na ca),(1,J sb Ab nb cb)] ⟨rfl,rfl,up⟩ (sr (bx (O sa Aa na ca) (Ext.refl w) G G G fun r _ f _ _ q=>(gN (O sb Ab nb cb) q f.lt G G G fun E _ p _ _ D e=>(mv 1 G (a1 (sr (pf r 1 G (aL G G (aP bX (f.ext D) G) (pf E 1 G (aL G G (aP bX p G) (cl (vs:= [i9 Aa na ca,i9 Ab nb cb]) e (tD (hx.ext e).wi (aO la G) (hy.ext e).wi (aO lb G)) G (by kernel_rfl) fun _ _ o _ h=>?_))))))))))))
 obtain rfl:=o
 refine mv 1 G (a1 (aU (aT [a9 (cX (Int.natAbs x) (Int.natAbs y))] G ⟨rfl,up⟩ ?_)))
 exact⟨_,rfl,rfl,h⟩
theorem TV {nb:Nat}(hx:Zi w sa Aa na ca x)(la:na≤17179869183)(hy:Zi w sb Ab nb cb y)(lb:nb≤17179869183):aQ aH 45 #[J sa Aa na ca,J sb Ab nb cb] w (Gv w (Is (a9 (bH x y)))):=by
 have Lx:ln x≤17179869183:=aE hx.ln la
 have Ly:ln y≤17179869183:=aE hy.ln lb
 refine bL Tryz.func45 G (n:=22) G (bq G) (args:= [J sa Aa na ca,J sb Ab nb cb]) (bF [(0,J sa Aa na ca),(1,J sb Ab nb cb)] ⟨rfl,rfl,up⟩ (sr (bx (O sa Aa na ca) (Ext.refl w) G G G fun _ _ o _ _ I=>(gN (O sb Ab nb cb) I o.lt G G G fun _ _ r _ _ M q=>(mv 1 G (a1 (sr (lo aB (o.ext M) (O sa Aa na ca) G G G (cl (vs:= [J sa Aa na ca]) q (jJ (hx.ext q) (aO la G)) G (by kernel_rfl) fun _ _ F f p=>?_)))))))))
 obtain rfl:=F
 refine mv 1 G (a1 (sr (lo aB (r.ext f) (O sb Ab nb cb) G G G (cl (vs:= [J sb Ab nb cb]) p (jJ (hy.ext p) (aO lb G)) G (by kernel_rfl) fun _ _ E D e=>?_))))
 obtain rfl:=E
 refine mv 1 G (a1 (a7 (a7 ?_)))
 by_cases hs:bH x 0=bH y 0
 ·refine a6 (mv 2 G (aA G G G false (kS (h:=hs)) (a1 (aN G (aW (aC (sr (mv 1 G (lo aB (o.ext (M.t (f.t D))) (O sa Aa na ca) G G G (lo aB (r.ext (f.t D)) (O sb Ab nb cb) G G G (cl (vs:= [J sa Aa na ca,J sb Ab nb cb]) e (wJ (hx.ext e) (aO la G) (hy.ext e) (aO lb G)) G (by kernel_rfl) fun _ _ H _ L=>?_)))))))))))
  obtain rfl:=H
  refine aR G G G (bH x y) (tK (NM hs) (EB _ _).1 (EB _ _).2) (mv 1 G (a1 (aU (aT [a9 (bH x y)] G ⟨rfl,up⟩ ?_))))
  exact⟨_,rfl,rfl,L⟩
 ·by_cases hl:bH x 0<bH y 0
  ·refine a6 (mv 2 G (aA G G G true (nQ (h:=hs)) (a1 (aY G (a7 (sr (mv 2 G (aA G G G true (p8 hl) (a1 (aY G (sr (mv 1 G (aS ?_)))))))))))))
   refine aC (aU (bU (bU (aT [a9 (-1)] G ⟨rfl,up⟩ ?_))))
   exact⟨_,rfl,(show (a9 (-1):aD)=d8 .i64 (bH x y) by rw [NU hl]),e⟩
  ·refine a6 (mv 2 G (aA G G G true (nQ (h:=hs)) (a1 (aY G (a7 (sr (mv 2 G (aA G G G false (mT) (a1 (aN G (aW (aC (a7 ?_)))))))))))))
   refine a6 (mv 1 G (a1 (aU (bU (aT [a9 1] G ⟨rfl,up⟩ ?_)))))
   exact⟨_,rfl,(show (a9 1:aD)=d8 .i64 (bH x y) by rw [NW (by omega)]),e⟩
theorem lY {nb:Nat}(hb:b≤w.heap.size)(hx:Zi w sa Aa na ca x)(la:na≤17179869183)(hy:Zi w sb Ab nb cb y)(lb:nb≤17179869183):aQ aH 49 #[J sa Aa na ca,J sb Ab nb cb] w (Gv w (ZR b (x+y))):=by
 refine Calls.mono (R:=Gv w (ZR w.heap.size (x+y))) ?_ (Gv.imp (ZR.imp hb))
 have Lx:ln x≤17179869183:=aE hx.ln la
 have Ly:ln y≤17179869183:=aE hy.ln lb
 refine bL Tryz.func49 G (n:=54) G (bq G) (args:= [J sa Aa na ca,J sb Ab nb cb]) (bF [(0,J sa Aa na ca),(1,J sb Ab nb cb)] ⟨rfl,rfl,up⟩ (sr (bx (O sa Aa na ca) (Ext.refl w) G G G fun L _ o _ _ fe=>(gN (O sb Ab nb cb) fe o.lt G G G fun M _ p _ _ I iu=>(cO [F0,S0] iu p.lt (fun _=>by kernel_rfl) G fun _ _ E D _ e h=>(a1 (a7 (a7 ?_))))))))
 by_cases aj:sa=true
 ·subst aj
  by_cases H:sb=true
  ·subst H
   refine a6 (pf L 0 G (aL G G (aP dB (o.ext (I.t e)) G) (pf M 0 G (aL G G (aP dB (p.ext e) G) (pu (v:= no) G (a1 (aY G (sr (pf L 1 G (aL G G (aP bX (o.ext (I.t e)) G) (pf M 1 G (aL G G (aP bX (p.ext e) G) ?_))))))))))))
   have ei:(wd ((Int.natAbs x)+(Int.natAbs y))).length≤17179869184:=aE (AV _ _) (Nat.succ_le_succ (Nat.max_le.2 ⟨aE Lx (by decide),aE Ly (by decide)⟩))
   refine cl (vs:= [i9 Aa na ca,i9 Ab nb cb]) h (II h.size (hx.ext h).wi (aO la G) (hy.ext h).wi (aO lb G)) G (by kernel_rfl) fun _ _ ir cj f=>?_
   obtain⟨fx,fh,iq,rfl,fc,ig⟩:=ir
   refine mv 1 G (a1 (sr (pf L 0 G (aL G G (aP dB (o.ext (I.t (e.t cj))) G) (mv 1 G ?_)))))
   have iz:ln (sg true ((Int.natAbs x)+(Int.natAbs y)))≤17179869184:=by rw [i0];exact ei
   refine cl (vs:= (O true fx fh iq)) f (iS f.size ig.wi (by rw [fc];exact aE ei (by decide))) G (by kernel_rfl) fun _ _ fz gi q=>?_
   obtain⟨bh,bd,bm,cf,rfl,ix⟩:=fz
   have ar:=(E.ext (cj.t gi))
   refine so aB ar (O bh bd bm cf) q D G G G G fun _ en iw r=>(a1 (aU (bU (aT [J bh bd bm cf] G ⟨⟨_,rfl,bA aB en (O bh bd bm cf) G (bq G) rfl⟩,up⟩ ?_))))
   exact⟨_,rfl,⟨_,_,_,_,rfl,((ix.updT ar iw)).cast (by rw [zD,hx.sg,hy.sg])⟩,r⟩
  ·replace H:sb=false:=by simpa using H
   subst H
   refine a6 (pf L 0 G (aL G G (aP dB (o.ext (I.t e)) G) (pf M 0 G (aL G G (aP dB (p.ext e) G) (pu (v:= t9) G (a1 (aN G (aW (aC (a7 (a7 ?_)))))))))))
   by_cases F:Int.natAbs y≤Int.natAbs x
   ·refine a6 (pf L 1 G (aL G G (aP bX (o.ext (I.t e)) G) (pf M 1 G (aL G G (aP bX (p.ext e) G) (cl (vs:= [i9 Aa na ca,i9 Ab nb cb]) h (tD (hx.ext h).wi (aO la G) (hy.ext h).wi (aO lb G)) G (by kernel_rfl) fun _ _ fi am f=>?_)))))
    obtain rfl:=fi
    refine aA G G G true (JD F) (a1 (aY G (sr (pf L 1 G (aL G G (aP bX (o.ext (I.t (e.t am))) G) (pf M 1 G (aL G G (aP bX (p.ext (e.t am)) G) ?_)))))))
    have fa:(wd ((Int.natAbs x)-(Int.natAbs y))).length≤17179869183:=aE (iP (Nat.sub_le _ _)) Lx
    refine cl (vs:= [i9 Aa na ca,i9 Ab nb cb]) f (wL f.size (hx.ext f).wi (aO la G) (hy.ext f).wi (aO lb G) F) G (by kernel_rfl) fun _ _ fw cv q=>?_
    obtain⟨_,_,rfl,⟨dl,cu,ck,rfl,ia,fy⟩,rfl⟩:=fw
    refine mv 1 G (pu (v:= i9 dl cu ck) G (pu (v:= a9 0) G (mv 2 G (a1 (sr (pf L 0 G (aL G G (aP dB (o.ext (I.t (e.t (am.t cv)))) G) (mv 1 G ?_))))))))
    have jc:ln (sg true ((Int.natAbs x)-(Int.natAbs y)))≤17179869183:=by rw [i0];exact fa
    refine cl (vs:= (O true dl cu ck)) q (iS q.size fy.wi (by rw [ia];exact aE fa (by decide))) G (by kernel_rfl) fun _ _ gf gg r=>?_
    obtain⟨bi,bu,bg,ch,rfl,fs⟩:=gf
    have aq:=(E.ext (am.t (cv.t gg)))
    refine so aB aq (O bi bu bg ch) r D G G G G fun _ dr fg U=>(a1 (aU (bU (aT [J bi bu bg ch] G ⟨⟨_,rfl,bA aB dr (O bi bu bg ch) G (bq G) rfl⟩,up⟩ ?_))))
    exact⟨_,rfl,⟨_,_,_,_,rfl,((fs.updT aq fg)).cast (by rw [qI F];show sg true _+sg false _=_;rw [hx.sg,hy.sg])⟩,U⟩
   ·refine a6 (pf L 1 G (aL G G (aP bX (o.ext (I.t e)) G) (pf M 1 G (aL G G (aP bX (p.ext e) G) (cl (vs:= [i9 Aa na ca,i9 Ab nb cb]) h (tD (hx.ext h).wi (aO la G) (hy.ext h).wi (aO lb G)) G (by kernel_rfl) fun _ _ fm ak f=>?_)))))
    obtain rfl:=fm
    refine aA G G G false (JE F) (a1 (aN G (aW (aC (sr (pf M 1 G (aL G G (aP bX (p.ext (e.t ak)) G) (pf L 1 G (aL G G (aP bX (o.ext (I.t (e.t ak))) G) ?_)))))))))
    have dg:(wd ((Int.natAbs y)-(Int.natAbs x))).length≤17179869183:=aE (iP (Nat.sub_le _ _)) Ly
    refine cl (vs:= [i9 Ab nb cb,i9 Aa na ca]) f (wL f.size (hy.ext f).wi (aO lb G) (hx.ext f).wi (aO la G) (by omega)) G (by kernel_rfl) fun _ _ fo du q=>?_
    obtain⟨_,_,rfl,⟨ej,dw,ee,rfl,ij,il⟩,rfl⟩:=fo
    refine mv 1 G (pu (v:= i9 ej dw ee) G (pu (v:= a9 0) G (mv 2 G (a1 (sr (pf M 0 G (aL G G (aP dB (p.ext (e.t (ak.t du))) G) (mv 1 G ?_))))))))
    have jb:ln (sg false ((Int.natAbs y)-(Int.natAbs x)))≤17179869183:=by rw [i0];exact dg
    refine cl (vs:= [F0,i9 ej dw ee]) q (iS q.size il.wi (by rw [ij];exact aE dg (by decide))) G (by kernel_rfl) fun _ _ ik fq r=>?_
    obtain⟨bj,ba,bz,ce,rfl,gy⟩:=ik
    have av:=(E.ext (ak.t (du.t fq)))
    refine so aB av (O bj ba bz ce) r D G G G G fun _ dm fv U=>(a1 (aU (aT [J bj ba bz ce] G ⟨⟨_,rfl,bA aB dm (O bj ba bz ce) G (bq G) rfl⟩,up⟩ ?_)))
    exact⟨_,rfl,⟨_,_,_,_,rfl,((gy.updT av fv)).cast (by rw [qI (by omega)];show sg false _+sg true _=_;rw [hx.sg,hy.sg,Int.add_comm])⟩,U⟩
 ·replace aj:sa=false:=by simpa using aj
  subst aj
  by_cases H:sb=true
  ·subst H
   refine a6 (pf L 0 G (aL G G (aP dB (o.ext (I.t e)) G) (pf M 0 G (aL G G (aP dB (p.ext e) G) (pu (v:= t9) G (a1 (aN G (aW (aC (a7 (a7 ?_)))))))))))
   by_cases F:Int.natAbs y≤Int.natAbs x
   ·refine a6 (pf L 1 G (aL G G (aP bX (o.ext (I.t e)) G) (pf M 1 G (aL G G (aP bX (p.ext e) G) (cl (vs:= [i9 Aa na ca,i9 Ab nb cb]) h (tD (hx.ext h).wi (aO la G) (hy.ext h).wi (aO lb G)) G (by kernel_rfl) fun _ _ fd ai f=>?_)))))
    obtain rfl:=fd
    refine aA G G G true (JD F) (a1 (aY G (sr (pf L 1 G (aL G G (aP bX (o.ext (I.t (e.t ai))) G) (pf M 1 G (aL G G (aP bX (p.ext (e.t ai)) G) ?_)))))))
    have ep:(wd ((Int.natAbs x)-(Int.natAbs y))).length≤17179869183:=aE (iP (Nat.sub_le _ _)) Lx
    refine cl (vs:= [i9 Aa na ca,i9 Ab nb cb]) f (wL f.size (hx.ext f).wi (aO la G) (hy.ext f).wi (aO lb G) F) G (by kernel_rfl) fun _ _ ib ey q=>?_
    obtain⟨_,_,rfl,⟨da,dz,cm,rfl,gj,ft⟩,rfl⟩:=ib
    refine mv 1 G (pu (v:= i9 da dz cm) G (pu (v:= a9 0) G (mv 2 G (a1 (sr (pf L 0 G (aL G G (aP dB (o.ext (I.t (e.t (ai.t ey)))) G) (mv 1 G ?_))))))))
    have jd:ln (sg false ((Int.natAbs x)-(Int.natAbs y)))≤17179869183:=by rw [i0];exact ep
    refine cl (vs:= [F0,i9 da dz cm]) q (iS q.size ft.wi (by rw [gj];exact aE ep (by decide))) G (by kernel_rfl) fun _ _ gk ie r=>?_
    obtain⟨cg,bv,bo,bt,rfl,fk⟩:=gk
    have aw:=(E.ext (ai.t (ey.t ie)))
    refine so aB aw (O cg bv bo bt) r D G G G G fun _ dh fj U=>(a1 (aU (bU (aT [J cg bv bo bt] G ⟨⟨_,rfl,bA aB dh (O cg bv bo bt) G (bq G) rfl⟩,up⟩ ?_))))
    exact⟨_,rfl,⟨_,_,_,_,rfl,((fk.updT aw fj)).cast (by rw [qI F];show sg false _+sg true _=_;rw [hx.sg,hy.sg])⟩,U⟩
   ·refine a6 (pf L 1 G (aL G G (aP bX (o.ext (I.t e)) G) (pf M 1 G (aL G G (aP bX (p.ext e) G) (cl (vs:= [i9 Aa na ca,i9 Ab nb cb]) h (tD (hx.ext h).wi (aO la G) (hy.ext h).wi (aO lb G)) G (by kernel_rfl) fun _ _ io ao f=>?_)))))
    obtain rfl:=io
    refine aA G G G false (JE F) (a1 (aN G (aW (aC (sr (pf M 1 G (aL G G (aP bX (p.ext (e.t ao)) G) (pf L 1 G (aL G G (aP bX (o.ext (I.t (e.t ao))) G) ?_)))))))))
    have ew:(wd ((Int.natAbs y)-(Int.natAbs x))).length≤17179869183:=aE (iP (Nat.sub_le _ _)) Ly
    refine cl (vs:= [i9 Ab nb cb,i9 Aa na ca]) f (wL f.size (hy.ext f).wi (aO lb G) (hx.ext f).wi (aO la G) (by omega)) G (by kernel_rfl) fun _ _ ge em q=>?_
    obtain⟨_,_,rfl,⟨co,eh,cx,rfl,go,fp⟩,rfl⟩:=ge
    refine mv 1 G (pu (v:= i9 co eh cx) G (pu (v:= a9 0) G (mv 2 G (a1 (sr (pf M 0 G (aL G G (aP dB (p.ext (e.t (ao.t em))) G) (mv 1 G ?_))))))))
    have ja:ln (sg true ((Int.natAbs y)-(Int.natAbs x)))≤17179869183:=by rw [i0];exact ew
    refine cl (vs:= (O true co eh cx)) q (iS q.size fp.wi (by rw [go];exact aE ew (by decide))) G (by kernel_rfl) fun _ _ fb el r=>?_
    obtain⟨ab,ag,Y,Z,rfl,df⟩:=fb
    have ae:=(E.ext (ao.t (em.t el)))
    refine so aB ae (O ab ag Y Z) r D G G G G fun _ bf dt U=>(a1 (aU (aT [J ab ag Y Z] G ⟨⟨_,rfl,bA aB bf (O ab ag Y Z) G (bq G) rfl⟩,up⟩ ?_)))
    exact⟨_,rfl,⟨_,_,_,_,rfl,((df.updT ae dt)).cast (by rw [qI (by omega)];show sg true _+sg false _=_;rw [hx.sg,hy.sg,Int.add_comm])⟩,U⟩
  ·replace H:sb=false:=by simpa using H
   subst H
   refine a6 (pf L 0 G (aL G G (aP dB (o.ext (I.t e)) G) (pf M 0 G (aL G G (aP dB (p.ext e) G) (pu (v:= no) G (a1 (aY G (sr (pf L 1 G (aL G G (aP bX (o.ext (I.t e)) G) (pf M 1 G (aL G G (aP bX (p.ext e) G) ?_))))))))))))
   have au:(wd ((Int.natAbs x)+(Int.natAbs y))).length≤17179869184:=aE (AV _ _) (Nat.succ_le_succ (Nat.max_le.2 ⟨aE Lx (by decide),aE Ly (by decide)⟩))
   refine cl (vs:= [i9 Aa na ca,i9 Ab nb cb]) h (II h.size (hx.ext h).wi (aO la G) (hy.ext h).wi (aO lb G)) G (by kernel_rfl) fun _ _ ci az f=>?_
   obtain⟨ef,de,dd,rfl,ct,ea⟩:=ci
   refine mv 1 G (a1 (sr (pf L 0 G (aL G G (aP dB (o.ext (I.t (e.t az))) G) (mv 1 G ?_)))))
   have iy:ln (sg false ((Int.natAbs x)+(Int.natAbs y)))≤17179869184:=by rw [i0];exact au
   refine cl (vs:= [F0,i9 ef de dd]) f (iS f.size ea.wi (by rw [ct];exact aE au (by decide))) G (by kernel_rfl) fun _ _ ez eg q=>?_
   obtain⟨aa,W,X,ah,rfl,dy⟩:=ez
   have V:=(E.ext (az.t eg))
   refine so aB V (O aa W X ah) q D G G G G fun _ bw dx r=>(a1 (aU (bU (aT [J aa W X ah] G ⟨⟨_,rfl,bA aB bw (O aa W X ah) G (bq G) rfl⟩,up⟩ ?_))))
   exact⟨_,rfl,⟨_,_,_,_,rfl,((dy.updT V dx)).cast (by rw [zD,hx.sg,hy.sg])⟩,r⟩
theorem wH {nb:Nat}(hb:b≤w.heap.size)(hx:Zi w sa Aa na ca x)(la:na≤17179869183)(hy:Zi w sb Ab nb cb y)(lb:nb≤17179869183):aQ aH 50 #[J sa Aa na ca,J sb Ab nb cb] w (Gv w (ZR b (x-y))):=by
 refine Calls.mono (R:=Gv w (ZR w.heap.size (x-y))) ?_ (Gv.imp (ZR.imp hb))
 have Lx:ln x≤17179869183:=aE hx.ln la
 have Ly:ln y≤17179869183:=aE hy.ln lb
 refine bL Tryz.func50 G (n:=13) G (bq G) (args:= [J sa Aa na ca,J sb Ab nb cb]) (bF [(0,J sa Aa na ca),(1,J sb Ab nb cb)] ⟨rfl,rfl,up⟩ (sr (bx (O sa Aa na ca) (Ext.refl w) G G G fun _ _ I _ _ V=>(gN (O sb Ab nb cb) V I.lt G G G fun g6 _ r _ _ e8 Z=>(cO [F0,S0] Z r.lt (fun _=>by kernel_rfl) G fun _ _ F H _ q e=>(a1 (sr (lo aB (I.ext (e8.t q)) (O sa Aa na ca) G G G (pf g6 0 G (aL G G (aP dB (r.ext q) G) (pu (v:= .bool (!sb)) G (pf g6 1 G (aL G G (aP bX (r.ext q) G) ?_)))))))))))))
 refine pu (v:= .agg #[.bool (!sb),i9 Ab nb cb]) G ?_
 have ab:ln (x+(-y))≤17179869184:=aE (dZ Lx (show ln (-y)≤17179869183 by rw [sX];exact Ly)) (by decide)
 refine cl (vs:= [J sa Aa na ca,.agg #[.bool (!sb),i9 Ab nb cb]]) e (lY e.size (hx.ext e) (aO la G) (hy.ext e).not (aO lb G)) G (by kernel_rfl) fun _ _ X U L=>?_
 obtain⟨h,o,D,p,rfl,Y⟩:=X
 have f:=(F.ext U)
 refine so aB f (O h o D p) L H G G G G fun _ E M W=>(a1 (aU (aT [J h o D p] G ⟨⟨_,rfl,bA aB E (O h o D p) G (bq G) rfl⟩,up⟩ ?_)))
 exact⟨_,rfl,⟨_,_,_,_,rfl,((Y.updT f M)).cast (by omega)⟩,W⟩
theorem ID {nb:Nat}(hb:b≤w.heap.size)(hx:Zi w sa Aa na ca x)(la:na≤17179869183)(hy:Zi w sb Ab nb cb y)(lb:nb≤17179869183):aQ aH 51 #[J sa Aa na ca,J sb Ab nb cb] w (Gv w (ZR b (x*y))):=by
 refine Calls.mono (R:=Gv w (ZR w.heap.size (x*y))) ?_ (Gv.imp (ZR.imp hb))
 have Lx:ln x≤17179869183:=aE hx.ln la
 have Ly:ln y≤17179869183:=aE hy.ln lb
 refine bL Tryz.func51 G (n:=18) G (bq G) (args:= [J sa Aa na ca,J sb Ab nb cb]) (bF [(0,J sa Aa na ca),(1,J sb Ab nb cb)] ⟨rfl,rfl,up⟩ (sr (bx (O sa Aa na ca) (Ext.refl w) G G G fun g1 _ r _ _ Z=>(gN (O sb Ab nb cb) Z r.lt G G G fun g6 _ E _ _ e8 ah=>(cO [F0,S0] ah E.lt (fun _=>by kernel_rfl) G fun _ _ L M _ f e=>(a1 (sr (pf g1 1 G (aL G G (aP bX (r.ext (e8.t f)) G) (pf g6 1 G (aL G G (aP bX (E.ext f) G) ?_)))))))))))
 have I:(wd ((Int.natAbs x)*(Int.natAbs y))).length≤34359738366:=aE (vY _ _) (Nat.add_le_add Lx Ly)
 refine cl (vs:= [i9 Aa na ca,i9 Ab nb cb]) e (IE e.size (hx.ext e).wi (aO la G) (hy.ext e).wi (aO lb G)) G (by kernel_rfl) fun _ _ ae o H=>?_
 obtain⟨ab,am,ag,rfl,V,X⟩:=ae
 refine mv 1 G (a1 (sr (pf g1 0 G (aL G G (aP dB (r.ext (e8.t (f.t o))) G) (pf g6 0 G (aL G G (aP dB (E.ext (f.t o)) G) (pu (v:= .bool (!(sa==sb))) G (mv 1 G ?_))))))))
 have au:ln (sg (!(sa==sb)) ((Int.natAbs x)*(Int.natAbs y)))≤34359738366:=by rw [i0];exact I
 refine cl (vs:= [.bool (!(sa==sb)),i9 ab am ag]) H (iS H.size X.wi (by rw [V];exact aE I (by decide))) G (by kernel_rfl) fun _ _ ai Y aa=>?_
 obtain⟨F,q,D,p,rfl,aj⟩:=ai
 have h:=(L.ext (o.t Y))
 refine so aB h (O F q D p) aa M G G G G fun _ U ak W=>(a1 (aU (aT [J F q D p] G ⟨⟨_,rfl,bA aB U (O F q D p) G (bq G) rfl⟩,up⟩ ?_)))
 exact⟨_,rfl,⟨_,_,_,_,rfl,((aj.updT h ak)).cast ((EA _ _ _ _).trans (by rw [hx.sg,hy.sg]))⟩,W⟩
theorem IC {nb:Nat}{nd:Nat}(hb:b≤w.heap.size)(hx:Zi w sa Aa na ca x)(la:na≤8589934591)(hy:Zi w sb Ab nb cb y)(lb:nb≤8589934591)(hz:Zi w sd Ad nd cd z)(ld:nd≤8589934591):aQ aH 52 #[J sa Aa na ca,J sb Ab nb cb,J sd Ad nd cd] w (Gv w (ZR b (x*y+z))):=by
 refine Calls.mono (R:=Gv w (ZR w.heap.size (x*y+z))) ?_ (Gv.imp (ZR.imp hb))
 have Lx:ln x≤8589934591:=aE hx.ln la
 have Ly:ln y≤8589934591:=aE hy.ln lb
 have Lz:ln z≤8589934591:=aE hz.ln ld
 refine bL Tryz.func52 G (n:=14) G (bq G) (args:= [J sa Aa na ca,J sb Ab nb cb,J sd Ad nd cd]) (bF [(0,J sa Aa na ca),(1,J sb Ab nb cb),(2,J sd Ad nd cd)] ⟨rfl,rfl,rfl,up⟩ (sr (bx (O sa Aa na ca) (Ext.refl w) G G G fun _ _ ah _ _ am=>(gN (O sb Ab nb cb) am ah.lt G G G fun _ _ ag _ _ e8 bf=>(gN (O sd Ad nd cd) bf ag.lt G G G fun _ _ p _ _ ae bd=>(cO [F0,S0] bd p.lt (fun _=>by kernel_rfl) G fun _ _ o Y _ r e=>(a1 (sr (lo aB (ah.ext (e8.t (ae.t r))) (O sa Aa na ca) G G G (lo aB (ag.ext (ae.t r)) (O sb Ab nb cb) G G G ?_))))))))))
 have ai:ln (x*y)≤17179869182:=aE (lA Lx Ly) (by decide)
 refine cl (vs:= [J sa Aa na ca,J sb Ab nb cb]) e (ID e.size (hx.ext e) (aO la G) (hy.ext e) (aO lb G)) G (by kernel_rfl) fun _ _ aq H ao=>?_
 obtain⟨D,X,W,F,rfl,ab⟩:=aq
 refine cO [F0,S0] ao (o.ext H).lt (fun _=>by kernel_rfl) G fun _ _ f aj _ L ak=>(so aB f (O D X W F) ak aj G G G G fun _ Z M V=>(a1 (sr (lo aB Z (O D X W F) G G G (lo aB ((p.ext (r.t (H.t L))).vN M) (O sd Ad nd cd) G G G ?_)))))
 have bh:ln ((x*y)+z)≤17179869183:=aE (dZ ai Lz) (by decide)
 refine cl (vs:= [J D X W F,J sd Ad nd cd]) V (lY V.size ((ab.ext L).updT f M).zi (ab.le (aO ai G)) (hz.ext V) (aO ld G)) G (by kernel_rfl) fun _ _ au ba ar=>?_
 obtain⟨q,E,I,U,rfl,av⟩:=au
 have h:=(((o.ext (H.t L)).vN M).ext ba)
 refine so aB h (O q E I U) ar Y G G G G fun _ aa aw az=>(a1 (aU (aT [J q E I U] G ⟨⟨_,rfl,bA aB aa (O q E I U) G (bq G) rfl⟩,up⟩ ?_)))
 exact⟨_,rfl,⟨_,_,_,_,rfl,((av.updT h aw)).cast (G)⟩,az⟩
theorem TH {nb:Nat}(hb:b≤w.heap.size)(hx:Zi w sa Aa na ca x)(la:na≤17179869183)(hy:Zi w sb Ab nb cb y)(lb:nb≤17179869183)(h0:y≠0):aQ aH 133 #[J sa Aa na ca,J sb Ab nb cb] w (Gv w (T3 (ZR b (x.tdiv y)) (ZR b (x.tmod y)) (Is (a9 0)))):=by
 refine Calls.mono (R:=Gv w (T3 (ZR w.heap.size (x.tdiv y)) (ZR w.heap.size (x.tmod y)) (Is (a9 0)))) ?_ (Gv.imp (T3.imp (ZR.imp hb) (ZR.imp hb) Is.imp))
 have Lx:ln x≤17179869183:=aE hx.ln la
 have Ly:ln y≤17179869183:=aE hy.ln lb
 have cj:Int.natAbs y≠0:=by omega
 refine bL Tryz.func133 G (n:=34) G (bq G) (args:= [J sa Aa na ca,J sb Ab nb cb]) (bF [(0,J sa Aa na ca),(1,J sb Ab nb cb)] ⟨rfl,rfl,up⟩ (sr (bx (O sa Aa na ca) (Ext.refl w) G G G fun g1 _ aa _ _ cf=>(gN (O sb Ab nb cb) cf aa.lt G G G fun g6 _ ah _ _ e8 dd=>(cO [F0,S0] dd ah.lt (fun _=>by kernel_rfl) G fun _ _ ab bi _ I cx=>(cO [F0,S0] cx ab.lt (fun _=>by kernel_rfl) G fun _ _ bt bg _ o Z=>(mv 1 G (a1 (sr (pf g1 1 G (aL G G (aP bX (aa.ext (e8.t (I.t o))) G) (pf g6 1 G (aL G G (aP bX (ah.ext (I.t o)) G) ?_)))))))))))))
 have au:(wd ((Int.natAbs x)/(Int.natAbs y))).length≤17179869183:=aE (iP (eR _ _)) Lx
 have ai:(wd ((Int.natAbs x)%(Int.natAbs y))).length≤17179869183:=aE (iP (Nat.mod_le _ _)) Lx
 refine cl (vs:= [i9 Aa na ca,i9 Ab nb cb]) Z (TX Z.size (hx.ext Z).wi (aO la G) (hy.ext Z).wi (aO lb G) cj) G (by kernel_rfl) fun _ _ bz U ae=>?_
 obtain⟨_,_,_,rfl,⟨aq,ag,aw,rfl,bw,cm⟩,⟨av,ak,aj,rfl,ct,cu⟩,rfl⟩:=bz
 refine mv 1 G (pu (v:= i9 aq ag aw) G (pu (v:= i9 av ak aj) G (pu (v:= a9 0) G (mv 3 G (a1 (a7 (sr (mv 1 G (pu (v:= t9) G (a1 (aN G (aW (aC ?_)))))))))))))
 refine a7 ?_
 have dh:ln (sg (!(sa==sb)) ((Int.natAbs x)/(Int.natAbs y)))≤17179869183:=by rw [i0];exact au
 have dl:ln (sg sa ((Int.natAbs x)%(Int.natAbs y)))≤17179869183:=by rw [i0];exact ai
 refine eI cQ 11 [] [Is (a4 g1 0),Is (.bool sa),Is (a4 g6 0),Is (.bool sb),Is (.bool (!(sa==sb))),Is (i9 aq ag aw),ZR w.heap.size (sg (!(sa==sb)) ((Int.natAbs x)/(Int.natAbs y))),Is (a4 g1 0),Is (.bool sa),Is (i9 av ak aj),ZR w.heap.size (sg sa ((Int.natAbs x)%(Int.natAbs y)))] [[],[0],[],[2],[1,3],[],[4,5],[],[7],[],[8,9]] [[],[0],[],[2],[0,1,2,3],[],[0,1,2,3,4,5],[],[7],[],[0,1,2,3,4,5,6,7,8,9],[0,1,2,3,4,5,6,7,8,9,10],[0,1,2,3,4,5,6,7,8,9,10,11],[0,1,2,3,4,5,6,7,8,9,10,11,12]] rfl
  (aJ G G (aF G G ?_) (aJ G G (aF G G ?_) (aJ G G (aF G G ?_) (aJ G G (aF G G ?_) (aJ G G (aF G G ?_) (aJ G G (aF G G ?_) (aJ G G (aF G G ?_) (aJ G G (aF G G ?_) (aJ G G (aF G G ?_) (aJ G G (aF G G ?_) (aJ G G (aF G G ?_) dY))))))))))) ?_
 ·exact fun _ _=>aG (pf g1 0 G (aI G aK G))
 ·exact fun _ da=>dk G G (aG (aL G G (aP dB (aa.ext (e8.t (I.t (o.t (U.t da))))) G) (aI G aK G)))
 ·exact fun _ _=>aG (pf g6 0 G (aI G aK G))
 ·exact fun _ cg=>dk G G (aG (aL G G (aP dB (ah.ext (I.t (o.t (U.t cg)))) G) (aI G aK G)))
 ·exact fun _ _=>dk G G (dk G G (aG (pu (v:= .bool (!(sa==sb))) G (aI G aK G))))
 ·exact fun _ _=>aG (mv 1 G (aI G aK G))
 ·intro _ bu
  have e:=ae.trans bu
  refine dk G G (dk G G (aG ?_))
  have dg:ln (sg (!(sa==sb)) ((Int.natAbs x)/(Int.natAbs y)))≤17179869183:=by rw [i0];exact au
  refine cl (vs:= [.bool (!(sa==sb)),i9 aq ag aw]) e (iS e.size (cm.ext bu).wi (by rw [bw];exact aE au (by decide))) G (by kernel_rfl) fun _ _ ch co ao=>?_
  obtain⟨_,_,_,_,rfl,ck⟩:=ch
  exact aI G co ⟨_,_,_,_,rfl,ck⟩
 ·exact fun _ _=>aG (pf g1 0 G (aI G aK G))
 ·exact fun _ de=>dk G G (aG (aL G G (aP dB (aa.ext (e8.t (I.t (o.t (U.t de))))) G) (aI G aK G)))
 ·exact fun _ _=>aG (mv 1 G (aI G aK G))
 ·intro _ bf
  have e:=ae.trans bf
  refine dk G G (dk G G (aG ?_))
  have df:ln (sg sa ((Int.natAbs x)%(Int.natAbs y)))≤17179869183:=by rw [i0];exact ai
  refine cl (vs:= (O sa av ak aj)) e (iS e.size (cu.ext bf).wi (by rw [ct];exact aE ai (by decide))) G (by kernel_rfl) fun _ _ ba bo ao=>?_
  obtain⟨_,_,_,_,rfl,az⟩:=ba
  exact aI G bo ⟨_,_,_,_,rfl,az⟩
 ·intro _ M
  have e:=ae.trans M
  refine dk G G (dk G G (dk G G (dk G G (dk G G (dk G G (cF G G fun _ _ bd _ bm=>?_))))))
  obtain⟨E,H,r,X,rfl,p⟩:=bd
  have p:=p.ext bm
  refine dk G G (dk G G (dk G G (cF G G fun _ _ bj _ bv=>?_)))
  obtain⟨Y,W,D,F,rfl,L⟩:=bj
  have L:=L.ext bv
  refine aG ?_
  have h:=(ab.ext (o.t (U.t M)))
  refine so aB h (O E H r X) e bi G G G G fun _ ar V ao=>?_
  have f:=((bt.ext (U.t M)).vN V)
  refine so aB f (O Y W D F) ao bg G G G G fun _ am q ci=>(mv 1 G (aS (eB (aC (aU (aT [J E H r X,J Y W D F,I0] G ⟨⟨_,rfl,bA aB (ar.vN q) (O E H r X) G (bq G) rfl⟩,⟨_,rfl,bA aB am (O Y W D F) G (bq G) rfl⟩,rfl,up⟩ ?_))))))
  exact⟨_,rfl,⟨_,_,_,rfl,⟨_,_,_,_,rfl,(((p.updT h V).updT f q)).cast ((zA _ _ _ _).trans (by rw [hx.sg,hy.sg]))⟩,⟨_,_,_,_,rfl,(((L.updT h V).updT f q)).cast ((E6 sa sb _ _).trans (by rw [hx.sg,hy.sg]))⟩,rfl⟩,ci⟩
theorem TG {nb:Nat}(hb:b≤w.heap.size)(hx:Zi w sa Aa na ca x)(la:na≤17179869183)(hy:Zi w sb Ab nb cb y)(lb:nb≤17179869183)(h0:y=0):aQ aH 133 #[J sa Aa na ca,J sb Ab nb cb] w (Gv w (T3 (ZR b (0)) (ZR b (0)) (Is (a9 4)))):=by
 refine Calls.mono (R:=Gv w (T3 (ZR w.heap.size (0)) (ZR w.heap.size (0)) (Is (a9 4)))) ?_ (Gv.imp (T3.imp (ZR.imp hb) (ZR.imp hb) Is.imp))
 have Lx:ln x≤17179869183:=aE hx.ln la
 have Ly:ln y≤17179869183:=aE hy.ln lb
 have ae:Int.natAbs y=0:=by omega
 refine bL Tryz.func133 G (n:=34) G (bq G) (args:= [J sa Aa na ca,J sb Ab nb cb]) (bF [(0,J sa Aa na ca),(1,J sb Ab nb cb)] ⟨rfl,rfl,up⟩ (sr (bx (O sa Aa na ca) (Ext.refl w) G G G fun g1 _ L _ _ Y=>(gN (O sb Ab nb cb) Y L.lt G G G fun g6 _ V _ _ e8 ag=>(cO [F0,S0] ag V.lt (fun _=>by kernel_rfl) G fun _ _ h I _ M ab=>(cO [F0,S0] ab h.lt (fun _=>by kernel_rfl) G fun _ _ E H _ o D=>(mv 1 G (a1 (sr (pf g1 1 G (aL G G (aP bX (L.ext (e8.t (M.t o))) G) (pf g6 1 G (aL G G (aP bX (V.ext (M.t o)) G) ?_)))))))))))))
 refine cl (vs:= [i9 Aa na ca,i9 Ab nb cb]) D (TW (hy.ext D).wi (aO lb G) ae) G (by kernel_rfl) fun _ W ah F Z=>?_
 obtain rfl:=ah
 refine mv 1 G (pu (v:= i9 none 0 0) G (pu (v:= i9 none 0 0) G (pu (v:= a9 4) G (mv 3 G (a1 (a7 (sr (mv 1 G (pu (v:= no) G (a1 (aY G (sr (pu (v:= .agg #[F0,S0]) G ?_)))))))))))))
 refine pu (v:= .agg #[F0,S0]) G ?_
 have e:=(h.ext (o.t F))
 refine so aB e [F0,S0] Z I G G G G fun _ U q X=>?_
 have f:=((E.ext F).vN q)
 refine so aB f [F0,S0] X H G G G G fun _ r p aa=>(mv 1 G (a1 (aU (bU (aT [.agg #[F0,S0],.agg #[F0,S0],a9 4] G ⟨⟨_,rfl,bA aB (U.vN p) [F0,S0] G (bq G) rfl⟩,⟨_,rfl,bA aB r [F0,S0] G (bq G) rfl⟩,rfl,up⟩ ?_)))))
 exact⟨_,rfl,⟨_,_,_,rfl,⟨_,_,_,_,rfl,(((Zr.zero (w:=W) (base:=w.heap.size)).updT e q).updT f p)⟩,⟨_,_,_,_,rfl,(((Zr.zero (w:=W) (base:=w.heap.size)).updT e q).updT f p)⟩,rfl⟩,aa⟩
theorem DG:x.tmod y=0↔x.natAbs%y.natAbs=0:=by rw [←Int.natAbs_tmod,Int.natAbs_eq_zero]
theorem Q0 (h:(wd m).length≤N):(wd (m^k)).length≤N*k+1:=by
 refine iQ ?_
 have h1:=kH m
 have e:m^k≤(WB^N)^k:=Nat.pow_le_pow_left (Nat.le_of_lt (cS h1 (eW (by decide) h))) _
 rw [←Nat.pow_mul] at e
 exact jL e (Nat.pow_lt_pow_right (by decide) (by omega))
theorem sN (h:(wd m).length≤1048576)(hk:k≤256):(wd (m^k)).length≤268435457:=by
 have h1:=Q0 (k:=k) h
 have h2:1048576*k≤1048576*256:=fN _ hk
 omega
theorem WN (n:Nat)(hn:n≤18446744073709551615):aQ aH 197 #[i5 (n:Int)] w (fun e w'=>∃b:Nat,(b=dQ n∧b≤64)∧Gv w (Is (a9 b)) e w'):=
 (bits_Len n hn w).mono fun e w' h=>by
  obtain⟨b,h1,h2,rfl,rfl⟩:=h
  exact⟨b,⟨h1.out,h2⟩,_,rfl,rfl,Ext.refl _⟩
theorem U6 {n:Int}(hbad:n<0):aQ aH 147 #[i9 A an ac,a9 n] w (Gv w (T2 (Is (i9 none 0 0)) (Is (a9 3)))):=by
 refine bL Tryz.func147 G (n:=32) G (bq G) (args:= [i9 A an ac,a9 n]) (bF [(0,i9 A an ac),(1,a9 n)] ⟨rfl,rfl,up⟩ (sr (mv 2 G (a1 (a7 (sr (mv 1 G (aA G G G true (p8 hbad) (a1 (aY G (sr (mv 2 G (aS ?_)))))))))))))
 refine aC (aU (bU (aT [S0,a9 3] G ⟨rfl,rfl,up⟩ ?_)))
 exact⟨_,rfl,⟨_,_,rfl,rfl,rfl⟩,(Ext.refl w)⟩
theorem U5 {n:Int}(hbad:256<n):aQ aH 147 #[i9 A an ac,a9 n] w (Gv w (T2 (Is (i9 none 0 0)) (Is (a9 5)))):=by
 refine bL Tryz.func147 G (n:=32) G (bq G) (args:= [i9 A an ac,a9 n]) (bF [(0,i9 A an ac),(1,a9 n)] ⟨rfl,rfl,up⟩ (sr (mv 2 G (a1 (a7 (sr (mv 1 G (aA G G G false (mT) (a1 (aN G (aW (aC (a7 ?_)))))))))))))
 refine sr (mv 1 G (aA G G G true (lC (h:=hbad)) (a1 (aY G (sr (mv 2 G (a1 (aU (bU (aT [S0,a9 5] G ⟨rfl,rfl,up⟩ ?_))))))))))
 exact⟨_,rfl,⟨_,_,rfl,rfl,rfl⟩,(Ext.refl w)⟩
theorem U7 (hx:Wi w A an ac m)(hal:an≤1048576)(hn:n≤256):aQ aH 147 #[i9 A an ac,a9 n] w (Gv w (T2 (WR w.heap.size (m^n)) (Is (a9 0)))):=by
 have X:=aE hx.len hal
 have bo:=hx.len
 refine bL Tryz.func147 G (n:=32) G (bq G) (args:= [i9 A an ac,a9 n]) (bF [(0,i9 A an ac),(1,a9 n)] ⟨rfl,rfl,up⟩ (sr (mv 2 G (a1 (a7 (sr (mv 1 G (aA G G G false (cW (a:=n) (b:=0) G G) (a1 (aN G (aW (aC (a7 ?_)))))))))))))
 refine sr (mv 1 G (aA G G G false (fC (a:=n) (b:=256) G G) (a1 (aN G (aW (aC (sr (fW G G (k:=1) (e:=65) [i5 1] (fun _=>by kernel_rfl) fun g1 _ E=>?_))))))))
 have o4:=O1.mk_ (x:=1) (b:=w.heap.size) E (Ext.refl w).size
 have e5:=E.ext
 have o:=(Ext.refl w).trans e5
 have o7:=qO o4 (show 1≤18446744073709551615 by decide) (show 1≠0 by decide)
 have j6:=rC (show 1≤18446744073709551615 by decide) (show 1≠0 by decide)
 refine mv 1 G (a1 (a7 (sr (mv 1 G (dF G G (v:= i5 (IntKind.u64.wrap ((n:Nat):Int))) (v':= i5 n) (jC (by first | omega | exact hle64)) (d9 G G (vs:= [i5 n]) (by kernel_rfl) (by decide) (WN n (by omega)) ?_))))))
 rintro _ v8 ⟨q,ak,_,rfl,ag,e9⟩
 obtain⟨ao,V⟩:=ak
 refine dA ?_
 have f:=o.trans e9
 obtain rfl:=ag
 refine aR G G G (((q:Nat):Int)-1) (fH G) (mv 1 G (a1 (bI ?_)))
 refine cU (T:=a0×Nat×Nat×Option a8×Nat×Nat)
  (fun⟨wr,j,p,PA,pn,pc⟩=> [(0,i9 A an ac),(1,a9 n),(6,i9 PA pn pc),(7,a9 (((j:Nat):Int)-1))])
  (fun⟨wr,j,p,PA,pn,pc⟩=>wr)
  (fun⟨wr,j,p,PA,pn,pc⟩=>(Ext w wr)∧(j≤64)∧(p=m^(n/2^j))∧(pn=(wd p).length)∧(Own wr w.heap.size 65 1 PA pn pc ((wd p).map bC)))
  (fun⟨wr,j,p,PA,pn,pc⟩=>j)
  (⟨v8,q,1,(some ⟨g1,0,none⟩),1,1⟩:a0×Nat×Nat×Option a8×Nat×Nat) ⟨f,V,(by rw [gV (by rw [ao];exact qZ n)];rfl),j6,(o7.ext e9)⟩ G ⟨rfl,rfl,rfl,rfl,up⟩ ?_
 rintro⟨wr,j,p,PA,pn,pc⟩ ⟨o,hj,W,ah,L⟩
 refine cR [(0,i9 A an ac),(1,a9 n),(6,i9 PA pn pc),(7,a9 (((j:Nat):Int)-1))] wr G ⟨rfl,rfl,rfl,rfl,up⟩ (a7 (a7 ?_))
 by_cases H:0<j
 ·have Z:((j:Nat):Int)-1=((j-1:Nat):Int):=by omega
  refine bF [(0,i9 A an ac),(1,a9 n),(6,i9 PA pn pc),(7,a9 (((j:Nat):Int)-1))] ⟨rfl,rfl,rfl,rfl,up⟩ ?_
  rw [Z]
  have bf:(wd p).length≤268435457:=by rw [W];exact sN X (aE (eR _ _) hn)
  have bi:(wd (p*p)).length≤536870914:=aE (vY _ _) (by omega)
  refine a6 (mv 1 G (aA G G G true (fY (a:=j-1) (b:=0) G G) (a1 (aY G (aW (aC (a7 (bI (sr (mv 1 G (cl (vs:= [i9 PA pn pc]) o (uV o.size L.wi) G (by kernel_rfl) fun _ aj ab _ f=>?_)))))))))))
  obtain⟨U,F,I,rfl,ar,D⟩:=ab
  refine mv 1 G (a1 (a7 ?_))
  by_cases ho:(n/2^(j-1))%2=1
  ·refine a6 (mv 2 G (nI G G G (r:= a9 ((n/2^(j-1):Nat):Int)) G (fun w=>GZ (x:=n) (s:=j-1) (by omega) _ _ w) (nI G G G (r:= a9 (((n/2^(j-1))%2:Nat):Int)) G (fun w=>H0 (x:=n/2^(j-1)) (by have:=eR n (2^(j-1));omega) _ _ w) (aA G G G true (fM (a:=(n/2^(j-1))%2) (b:=1) G G) (a1 (aY G (a6 (mv 2 G (cl (vs:= [i9 U F I,i9 A an ac]) f (EK f.size D.wi (hx.ext f) (by omega)) G (by kernel_rfl) fun _ au Y _ am=>?_)))))))))
   obtain⟨aq,aw,ai,rfl,ae,av⟩:=Y
   refine mv 1 G (aS (bG (aC (a6 (mv 1 G (aR G G G (((j-1:Nat):Int)-1) (fH G) (mv 1 G (aS (bW (⟨au,j-1,p*p*m,aq,aw,ai⟩:a0×Nat×Nat×Option a8×Nat×Nat) ⟨am,(by omega),(by have h:=FI (S:=m) (n:=n) (k:=j-1);rw [iH H,if_pos ho,←W] at h;exact h.symm),ae,av⟩ (show j-1<j by omega) G ⟨rfl,rfl,rfl,rfl,up⟩)))))))))
  ·refine a6 (mv 2 G (nI G G G (r:= a9 ((n/2^(j-1):Nat):Int)) G (fun w=>GZ (x:=n) (s:=j-1) (by omega) _ _ w) (nI G G G (r:= a9 (((n/2^(j-1))%2:Nat):Int)) G (fun w=>H0 (x:=n/2^(j-1)) (by have:=eR n (2^(j-1));omega) _ _ w) (aA G G G false (fT (a:=(n/2^(j-1))%2) (b:=1) G G) (a1 (aN G (aW (bG (aC (a6 (mv 1 G (aR G G G (((j-1:Nat):Int)-1) (fH G) (mv 1 G ?_)))))))))))))
   refine aS (bW (⟨aj,j-1,p*p,U,F,I⟩:a0×Nat×Nat×Option a8×Nat×Nat) ⟨f,(by omega),(by have h:=FI (S:=m) (n:=n) (k:=j-1);rw [iH H,if_neg ho,←W,dK] at h;exact h.symm),ar,D⟩ (show j-1<j by omega) G ⟨rfl,rfl,rfl,rfl,up⟩)
 ·have M:j=0:=by omega
  refine a6 (mv 1 G (aA G G G false (eF) (a1 (aN G (cN (cI (cL (cM (aC (sr (mv 3 G (a1 (aU ?_)))))))))))))
  refine aT [i9 PA pn pc,I0] G ⟨rfl,rfl,up⟩ ?_
  have aa:p=m^n:=by rw [W,M,Nat.pow_zero,Nat.div_one]
  subst aa
  exact⟨_,rfl,⟨_,_,rfl,⟨_,_,_,rfl,ah,L⟩,rfl⟩,o⟩
theorem U8 (hx:Wi w A an ac m)(hal:an≤1048576)(hn:n≤256)(hb:b≤w.heap.size):aQ aH 147 #[i9 A an ac,a9 n] w (Gv w (T2 (WR b (m^n)) (Is (a9 0)))):=(U7 hx hal hn).mono (Gv.imp (T2.imp (WR.imp hb) Is.imp))
theorem TY (hx:Wi w A an ac m)(hal:an≤1048576)(hn:n≤256):aQ aH 132 #[i9 A an ac,a9 n] w (Gv w (T2 (WR w.heap.size (m^n)) (Is (a9 0)))):=by
 have r:=aE hx.len hal
 have ai:=hx.len
 refine bL Tryz.func132 G (n:=22) G (bq G) (args:= [i9 A an ac,a9 n]) (bF [(0,i9 A an ac),(1,a9 n)] ⟨rfl,rfl,up⟩ (sr (mv 2 G (a1 (a7 (sr (mv 1 G (aA G G G false (cW (a:=n) (b:=0) G G) (a1 (aN G (aW (aC (a7 ?_)))))))))))))
 refine sr (mv 1 G (aA G G G false (fC (a:=n) (b:=256) G G) (a1 (aN G (aW (aC (sr (fW G G (k:=1) (e:=65) [i5 1] (fun _=>by kernel_rfl) fun Z v2 o=>?_))))))))
 have o4:=O1.mk_ (x:=1) (b:=w.heap.size) o (Ext.refl w).size
 have e5:=o.ext
 have f:=(Ext.refl w).trans e5
 have X:=qO o4 (show 1≤18446744073709551615 by decide) (show 1≠0 by decide)
 have j6:=rC (show 1≤18446744073709551615 by decide) (show 1≠0 by decide)
 refine mv 1 G (a1 (a7 (sr (mv 1 G (a1 (bI ?_))))))
 refine cU (T:=a0×Nat×Nat×Option a8×Nat×Nat)
  (fun⟨wr,i,p,PA,pn,pc⟩=> [(0,i9 A an ac),(1,a9 n),(6,i9 PA pn pc),(7,a9 i)])
  (fun⟨wr,i,p,PA,pn,pc⟩=>wr)
  (fun⟨wr,i,p,PA,pn,pc⟩=>(Ext w wr)∧(i≤n)∧(p=m^i)∧(pn=(wd p).length)∧(Own wr w.heap.size 65 1 PA pn pc ((wd p).map bC)))
  (fun⟨wr,i,p,PA,pn,pc⟩=>n-i)
  (⟨v2,0,1,(some ⟨Z,0,none⟩),1,1⟩:a0×Nat×Nat×Option a8×Nat×Nat) ⟨f,(bJ _),(by rw [Nat.pow_zero]),j6,X⟩ G ⟨rfl,rfl,rfl,rfl,up⟩ ?_
 rintro⟨wr,i,p,PA,pn,pc⟩ ⟨f,hi,E,L,h⟩
 refine cR [(0,i9 A an ac),(1,a9 n),(6,i9 PA pn pc),(7,a9 i)] wr G ⟨rfl,rfl,rfl,rfl,up⟩ (a7 (a7 ?_))
 by_cases ab:i<n
 ·have Y:(wd p).length≤268435457:=by rw [E];exact sN r (by omega)
  refine a6 (mv 2 G (aA G G G true (dG (a:=i) (b:=n) G G) (a1 (aY G (aW (aC (a7 (bI (a6 (mv 2 G (cl (vs:= [i9 PA pn pc,i9 A an ac]) f (IE f.size h.wi (by omega) (hx.ext f) (by omega)) G (by kernel_rfl) fun _ v8 I _ M=>?_)))))))))))
  obtain⟨W,H,V,rfl,D,U⟩:=I
  refine mv 1 G (aS (bG (aC (a6 (mv 1 G (aR G G G ((i+1:Nat):Int) (bN (a:=i) (b:=1) G G) (mv 1 G (aS (bW (⟨v8,i+1,p*m,W,H,V⟩:a0×Nat×Nat×Option a8×Nat×Nat) ⟨M,(by omega),(by rw [E,dJ]),D,U⟩ (show n-(i+1)<n-i by omega) G ⟨rfl,rfl,rfl,rfl,up⟩)))))))))
 ·have q:i=n:=by omega
  refine a6 (mv 2 G (aA G G G false (cW (a:=i) (b:=n) G G) (a1 (aN G (cN (cI (cL (cM (aC (sr (mv 3 G (a1 (aU ?_)))))))))))))
  refine aT [i9 PA pn pc,I0] G ⟨rfl,rfl,up⟩ ?_
  have F:p=m^n:=by rw [E,q]
  subst F
  exact⟨_,rfl,⟨_,_,rfl,⟨_,_,_,rfl,L,h⟩,rfl⟩,f⟩
theorem TZ (hx:Wi w A an ac m)(hal:an≤1048576)(hn:n≤256)(hb:b≤w.heap.size):aQ aH 132 #[i9 A an ac,a9 n] w (Gv w (T2 (WR b (m^n)) (Is (a9 0)))):=(TY hx hal hn).mono (Gv.imp (T2.imp (WR.imp hb) Is.imp))
theorem vW {x:Nat}(h:x≤18446744073709551615):(wd x).length≤1:=iQ (by rw [cC,Nat.pow_one];omega)
theorem QK {n:Int}(h1: -9223372036854775808≤n)(h:n<0):IntKind.u64.wrap (IntKind.i64.wrap (0-n))=((Int.natAbs n:Nat):Int):=by
 by_cases h2:n= -9223372036854775808
 ·subst h2;decide
 ·rw [IntWalk.i64_in _ ⟨by omega,by omega⟩,IntWalk.u64_in _ ⟨by omega,by omega⟩];omega
theorem QJ {n:Int}(h2:n≤9223372036854775807)(h:¬n<0):IntKind.u64.wrap n=((Int.natAbs n:Nat):Int):=by
 rw [IntWalk.u64_in _ ⟨by omega,by omega⟩];omega
def eT (x:Int):Int:=if-9223372036854775808≤x∧x≤9223372036854775807 then x else 0
def fF (x:Int):Int:=if-9223372036854775808≤x∧x≤9223372036854775807 then 0 else 5
theorem N0 (h:1<ln x):18446744073709551616≤Int.natAbs x:=by
 refine Nat.le_of_not_lt fun e=>?_
 have h1:(wd (Int.natAbs x)).length≤1:=iQ (by rw [cC,Nat.pow_one];exact e)
 have h2:ln x=(wd (Int.natAbs x)).length:=rfl
 omega
theorem MY (h:ln x=1):(wd (Int.natAbs x)).getD 0 0=Int.natAbs x∧Int.natAbs x≤18446744073709551615:=by
 have h2:(wd (Int.natAbs x)).length=1:=h
 have h1:=kH (Int.natAbs x)
 rw [h2,Nat.pow_one,cC] at h1
 refine⟨?_,by omega⟩
 rw [BC (mX _) (by rw [fK,cC];exact h1),fK]
theorem TS (hb:b≤w.heap.size)(hx:Zi w sa Aa na ca x)(la:na≤17179869183):aQ aH 47 #[J sa Aa na ca] w (Gv w (ZR b (-x))):=by
 refine Calls.mono (R:=Gv w (ZR w.heap.size (-x))) ?_ (Gv.imp (ZR.imp hb))
 have Lx:ln x≤17179869183:=aE hx.ln la
 refine bL Tryz.func47 G (n:=9) G (bq G) (args:= [J sa Aa na ca]) (bF [(0,J sa Aa na ca)] ⟨rfl,up⟩ (sr (bx (O sa Aa na ca) (Ext.refl w) G G G fun X _ o _ _ W=>(cO [F0,S0] W o.lt (fun _=>by kernel_rfl) G fun _ _ U E _ Y p=>(a1 (sr (pf X 0 G (aL G G (aP dB (o.ext Y) G) (pu (v:= .bool (!sa)) G (pf X 1 G (aL G G (aP bX (o.ext Y) G) ?_)))))))))))
 have Z:ln (sg (!sa) (Int.natAbs x))≤17179869183:=by rw [i0];exact Lx
 refine cl (vs:= [.bool (!sa),i9 Aa na ca]) p (iS p.size (hx.ext p).wi (aO la G)) G (by kernel_rfl) fun _ _ L M I=>?_
 obtain⟨h,q,r,f,rfl,F⟩:=L
 have e:=(U.ext M)
 refine so aB e (O h q r f) I E G G G G fun _ D V H=>(a1 (aU (aT [J h q r f] G ⟨⟨_,rfl,bA aB D (O h q r f) G (bq G) rfl⟩,up⟩ ?_)))
 exact⟨_,rfl,⟨_,_,_,_,rfl,((F.updT e V)).cast ((zB _ _).trans (by rw [hx.sg]))⟩,H⟩
theorem wI {n:Int}(hb:b≤w.heap.size)(h1: -9223372036854775808≤n:=by decide)(h2:n≤9223372036854775807:=by decide):aQ aH 42 #[a9 n] w (Gv w (ZR b (n))):=by
 refine Calls.mono (R:=Gv w (ZR w.heap.size (n))) ?_ (Gv.imp (ZR.imp hb))
 refine bL Tryz.func42 G (n:=14) G (bq G) (args:= [a9 n]) (bF [(0,a9 n)] ⟨rfl,up⟩ (sr (al [F0,S0] (Ext.refl w) (fun _=>by kernel_rfl) G fun _ _ ae Y _ h=>(a1 (a7 (a7 ?_))))))
 by_cases F:n<0
 ·refine a6 (mv 1 G (aA G G G true (p8 F) (a1 (aY G (sr (mv 1 G (pu (v:= a9 (IntKind.i64.wrap (0-n))) G (dF G G (v:= i5 (IntKind.u64.wrap (IntKind.i64.wrap (0-n)))) (v':= i5 (((Int.natAbs n):Nat):Int)) (by rw [QK h1 F]) (fW G G (k:=1) (e:=65) [i5 (((Int.natAbs n):Nat):Int)] (fun _=>by kernel_rfl) fun g6 _ ag=>?_)))))))))
  have o9:=O1.mk_ (x:=(Int.natAbs n)) (b:=w.heap.size) ag h.size
  have ab:=ag.ext
  have f:=h.trans ab
  have ba:ln (sg true (Int.natAbs n))≤1:=by rw [i0];exact (vW (show Int.natAbs n≤18446744073709551615 by omega))
  refine cl (vs:= [no,i9 (some ⟨g6,0,none⟩) 1 1]) f (iS f.size (zT o9 (show Int.natAbs n≤18446744073709551615 by omega)) (by decide)) G (by kernel_rfl) fun _ _ aq av L=>?_
  obtain⟨I,E,U,V,rfl,aj⟩:=aq
  have q:=(ae.ext (ab.t av))
  refine so aB q (O I E U V) L Y G G G G fun _ aa ah r=>(a1 (aU (bU (aT [J I E U V] G ⟨⟨_,rfl,bA aB aa (O I E U V) G (bq G) rfl⟩,up⟩ ?_))))
  exact⟨_,rfl,⟨_,_,_,_,rfl,((aj.updT q ah)).cast (by rw [kO];omega)⟩,r⟩
 ·refine a6 (mv 1 G (aA G G G false (mT) (a1 (aN G (aW (aC (sr (mv 1 G (dF G G (v:= i5 (IntKind.u64.wrap n)) (v':= i5 (((Int.natAbs n):Nat):Int)) (by rw [QJ h2 F]) (fW G G (k:=1) (e:=65) [i5 (((Int.natAbs n):Nat):Int)] (fun _=>by kernel_rfl) fun ao _ o=>?_))))))))))
  have au:=O1.mk_ (x:=(Int.natAbs n)) (b:=w.heap.size) o h.size
  have X:=o.ext
  have f:=h.trans X
  have aw:ln (sg false (Int.natAbs n))≤1:=by rw [i0];exact (vW (show Int.natAbs n≤18446744073709551615 by omega))
  refine cl (vs:= [F0,i9 (some ⟨ao,0,none⟩) 1 1]) f (iS f.size (zT au (show Int.natAbs n≤18446744073709551615 by omega)) (by decide)) G (by kernel_rfl) fun _ _ ak ai L=>?_
  obtain⟨H,W,M,D,rfl,ar⟩:=ak
  have p:=(ae.ext (X.t ai))
  refine so aB p (O H W M D) L Y G G G G fun _ Z am r=>(a1 (aU (aT [J H W M D] G ⟨⟨_,rfl,bA aB Z (O H W M D) G (bq G) rfl⟩,up⟩ ?_)))
  exact⟨_,rfl,⟨_,_,_,_,rfl,((ar.updT p am)).cast (by rw [jW];omega)⟩,r⟩
theorem TL (hx:Zi w sa Aa na ca x)(la:na≤17179869183):aQ aH 43 #[J sa Aa na ca] w (Gv w (T2 (Is (a9 (eT x))) (Is (a9 (fF x))))):=by
 have Lx:ln x≤17179869183:=aE hx.ln la
 refine bL Tryz.func43 G (n:=33) G (bq G) (args:= [J sa Aa na ca]) (bF [(0,J sa Aa na ca)] ⟨rfl,up⟩ (sr (bx (O sa Aa na ca) (Ext.refl w) G G G fun _ _ Y _ _ M=>(mv 2 G (a1 (sr (lo aB Y (O sa Aa na ca) G G G (cl (vs:= [J sa Aa na ca]) M (B5 M.size (hx.ext M) (aO la G)) G (by kernel_rfl) fun _ _ r8 e7 ak=>?_))))))))
 obtain⟨s9,A9,q,c9,rfl,W⟩:=r8
 refine cO [F0,S0] ak (Y.ext e7).lt (fun _=>by kernel_rfl) G fun h _ o U _ r ai=>(so aB o (O s9 A9 q c9) ai U G G G G fun _ f H p=>(a1 (a7 (a7 ?_))))
 have I:q=ln x:=(((W.ext r).updT o H)).len
 by_cases V:x=0
 ·have ah:q=0:=by rw [I,V];rfl
  refine a6 (pf h 1 G (aL G G (aP bX f G) (pu (v:= a9 q) G (aA G G G true (dD (by omega)) (a1 (aY G (sr (mv 2 G (a1 (aU (bU (aT [I0,I0] G ⟨rfl,rfl,up⟩ ?_))))))))))))
  have E:eT x=0:=by unfold eT;first | (rw [if_pos (by omega)];omega) | (rw [if_neg (by omega)])
  have D:fF x=0:=by unfold fF;first | (rw [if_pos (by omega)]) | (rw [if_neg (by omega)])
  exact⟨_,rfl,⟨_,_,rfl,(show d8 .i64 (0)=_ by rw [E]),(show d8 .i64 (0)=_ by rw [D])⟩,p⟩
 ·have ah:q≠0:=fun e=>V (GL (by rw [←I,e]))
  by_cases ag:1<q
  ·have av:=N0 (I▸ag)
   refine a6 (pf h 1 G (aL G G (aP bX f G) (pu (v:= a9 q) G (aA G G G false (cB) (a1 (aN G (aW (aC (a7 (sr (pf h 1 G (aL G G (aP bX f G) (pu (v:= a9 q) G ?_)))))))))))))
   refine aA G G G true (lC) (a1 (aY G (sr (mv 2 G (a1 (aU (bU (aT [I0,a9 5] G ⟨rfl,rfl,up⟩ ?_))))))))
   have E:eT x=0:=by unfold eT;first | (rw [if_pos (by omega)];omega) | (rw [if_neg (by omega)])
   have D:fF x=5:=by unfold fF;first | (rw [if_pos (by omega)]) | (rw [if_neg (by omega)])
   exact⟨_,rfl,⟨_,_,rfl,(show d8 .i64 (0)=_ by rw [E]),(show d8 .i64 (5)=_ by rw [D])⟩,p⟩
  ·have X:q=1:=by omega
   have Z:=MY (x:=x) (by rw [←I];exact X)
   by_cases aa:x<0
   ·obtain rfl:s9=true:=by rw [(((W.ext r).updT o H)).sgn];exact decide_eq_true aa
    refine a6 (pf h 1 G (aL G G (aP bX f G) (pu (v:= a9 q) G (aA G G G false (cB) (a1 (aN G (aW (aC (a7 (sr (pf h 1 G (aL G G (aP bX f G) (pu (v:= a9 q) G ?_)))))))))))))
    refine aA G G G false (pF) (a1 (aN G (aW (aC (sr (pf h 1 G (aL G G (aP bX f G) ?_)))))))
    obtain⟨p9,L,F,am⟩:=(((W.ext r).updT o H)).rd.at (i:=0) (by omega)
    rw [Z.1] at F
    refine bK G G G bS bM 0 G p9 L (aL G G (cT d7 F) (mv 1 G (a1 (a7 (sr (pf h 0 G (aL G G (aP dB f G) (a1 (aY G (a7 (a7 ?_)))))))))))
    by_cases ae:Int.natAbs x>9223372036854775808
    ·refine a6 (mv 1 G (aA G G G true (fB (a:=Int.natAbs x) (b:=9223372036854775808) G G) (a1 (aY G (sr (mv 2 G (a1 (aU (bU (bU (aT [I0,a9 5] G ⟨rfl,rfl,up⟩ ?_)))))))))))
     have E:eT x=0:=by unfold eT;first | (rw [if_pos (by omega)];omega) | (rw [if_neg (by omega)])
     have D:fF x=5:=by unfold fF;first | (rw [if_pos (by omega)]) | (rw [if_neg (by omega)])
     exact⟨_,rfl,⟨_,_,rfl,(show d8 .i64 (0)=_ by rw [E]),(show d8 .i64 (5)=_ by rw [D])⟩,p⟩
    ·refine a6 (mv 1 G (aA G G G false (fC (a:=Int.natAbs x) (b:=9223372036854775808) G G) (a1 (aN G (aW (aC (sr (mv 1 G (aR G G G (((Int.natAbs x)-1:Nat):Int) (tJ (a:=Int.natAbs x) (b:=1) G G) (dF G G (v:= a9 (IntKind.i64.wrap (((Int.natAbs x)-1:Nat):Int))) (v':= a9 (((Int.natAbs x)-1:Nat):Int)) (m0 (by omega)) (dF G G (v:= a9 (IntKind.i64.wrap (0-(((Int.natAbs x)-1:Nat):Int)))) (v':= a9 (-(((Int.natAbs x)-1:Nat):Int))) (QO (by omega) (by omega)) (aR G G G ((-(((Int.natAbs x)-1:Nat):Int))-1) (fH G) (mv 1 G ?_)))))))))))))
     refine mv 1 G (a1 (aU (bU (aT [a9 ((-(((Int.natAbs x)-1:Nat):Int))-1),I0] G ⟨rfl,rfl,up⟩ ?_))))
     have E:eT x=(-(((Int.natAbs x)-1:Nat):Int))-1:=by unfold eT;first | (rw [if_pos (by omega)];omega) | (rw [if_neg (by omega)])
     have D:fF x=0:=by unfold fF;first | (rw [if_pos (by omega)]) | (rw [if_neg (by omega)])
     exact⟨_,rfl,⟨_,_,rfl,(show d8 .i64 ((-(((Int.natAbs x)-1:Nat):Int))-1)=_ by rw [E]),(show d8 .i64 (0)=_ by rw [D])⟩,p⟩
   ·obtain rfl:s9=false:=by rw [(((W.ext r).updT o H)).sgn];exact decide_eq_false aa
    refine a6 (pf h 1 G (aL G G (aP bX f G) (pu (v:= a9 q) G (aA G G G false (cB) (a1 (aN G (aW (aC (a7 (sr (pf h 1 G (aL G G (aP bX f G) (pu (v:= a9 q) G ?_)))))))))))))
    refine aA G G G false (pF) (a1 (aN G (aW (aC (sr (pf h 1 G (aL G G (aP bX f G) ?_)))))))
    obtain⟨p9,L,F,am⟩:=(((W.ext r).updT o H)).rd.at (i:=0) (by omega)
    rw [Z.1] at F
    refine bK G G G bS bM 0 G p9 L (aL G G (cT d7 F) (mv 1 G (a1 (a7 (sr (pf h 0 G (aL G G (aP dB f G) (a1 (aN G (aW (aC (a7 (a7 ?_)))))))))))))
    by_cases ae:Int.natAbs x≥9223372036854775808
    ·refine a6 (mv 1 G (aA G G G true (fY (a:=Int.natAbs x) (b:=9223372036854775808) G G) (a1 (aY G (sr (mv 2 G (a1 (aU (bU (aT [I0,a9 5] G ⟨rfl,rfl,up⟩ ?_))))))))))
     have E:eT x=0:=by unfold eT;first | (rw [if_pos (by omega)];omega) | (rw [if_neg (by omega)])
     have D:fF x=5:=by unfold fF;first | (rw [if_pos (by omega)]) | (rw [if_neg (by omega)])
     exact⟨_,rfl,⟨_,_,rfl,(show d8 .i64 (0)=_ by rw [E]),(show d8 .i64 (5)=_ by rw [D])⟩,p⟩
    ·refine a6 (mv 1 G (aA G G G false (k9 (a:=Int.natAbs x) (b:=9223372036854775808) G G) (a1 (aN G (aW (aC (sr (mv 1 G (dF G G (v:= a9 (IntKind.i64.wrap ((Int.natAbs x:Nat):Int))) (v':= a9 ((Int.natAbs x:Nat):Int)) (m0 (by omega)) (mv 2 G (a1 (aU (aT [a9 ((Int.natAbs x:Nat):Int),I0] G ⟨rfl,rfl,up⟩ ?_)))))))))))))
     have E:eT x=((Int.natAbs x:Nat):Int):=by unfold eT;first | (rw [if_pos (by omega)];omega) | (rw [if_neg (by omega)])
     have D:fF x=0:=by unfold fF;first | (rw [if_pos (by omega)]) | (rw [if_neg (by omega)])
     exact⟨_,rfl,⟨_,_,rfl,(show d8 .i64 (((Int.natAbs x:Nat):Int))=_ by rw [E]),(show d8 .i64 (0)=_ by rw [D])⟩,p⟩
def iC (zs ys:List Int):Nat→Int
 | 0=>0
 | k+1=>zs.getD k 0*ys.getD k 0+iC zs ys k
theorem AU (h:∀i,ln (zs.getD i 0)≤N)(h2:∀i,ln (ys.getD i 0)≤N)(k:Nat):ln (iC zs ys k)≤2*N+k:=by
 induction k with
 | zero=>exact bJ _
 | succ k ih=>exact aE (dZ (lA (h k) (h2 k)) ih) (by omega)
theorem AA (a:Int):∀k:Nat,(-a)^(2*k)=a^(2*k)
 | 0=>by rw [gJ,Int.pow_zero,Int.pow_zero]
 | k+1=>by rw [show 2*(k+1)=2*k+1+1 by omega,Int.pow_succ,Int.pow_succ,Int.pow_succ,Int.pow_succ,AA a k,Int.mul_neg,Int.mul_neg,Int.neg_mul,Int.neg_neg]
theorem E7 (h:n%2=1):sg true (m^n)=sg true m^n:=by
 rw [kO,kO]
 obtain⟨k,rfl⟩:∃k,n=2*k+1:=⟨n/2,by omega⟩
 rw [Int.pow_succ,AA,Int.mul_neg,←Int.pow_succ,Int.natCast_pow]
theorem E9 (h:¬n%2=1):sg false (m^n)=sg true m^n:=by
 rw [kO,jW]
 obtain⟨k,rfl⟩:∃k,n=2*k:=⟨n/2,by omega⟩
 rw [AA,Int.natCast_pow]
theorem E8:sg false (m^n)=sg false m^n:=by rw [jW,jW,Int.natCast_pow]
theorem TJ (hb:b≤w.heap.size)(hl:Zl w A n cap zs ms)(hn:n≤1048576)(hmb:∀i,ms.getD i 0≤16777216):aQ aH 53 #[i9 A n cap] w (Gv w (ZR b (gK zs))):=by
 have bj:∀i,ln (zs.getD i 0)≤16777216:=jB hl hmb
 refine bL Tryz.func53 G (n:=19) G (bq G) (args:= [i9 A n cap]) (bF [(0,i9 A n cap)] ⟨rfl,up⟩ (sr (al [F0,S0] (Ext.refl w) (fun _=>by kernel_rfl) G fun g1 _ ak ba _ f=>(a1 (sr (pu (v:= .agg #[F0,S0]) G (cO [F0,S0] f ak.lt (fun _=>by kernel_rfl) G fun g6 _ az E _ e8 e=>(so aB az [F0,S0] e E G G G G fun ao ah av p=>(a1 (a7 (sr (mv 1 G (aS ?_)))))))))))))
 refine aC (bI ?_)
 refine cU (T:=a0×Nat×ZC)
  (fun⟨wr,k,kg⟩=> [(0,i9 A n cap),(2,a4 g1 0),(3,a4 g6 0),(4,a9 k)])
  (fun⟨wr,k,kg⟩=>wr)
  (fun⟨wr,k,kg⟩=>(Ext w wr)∧(k≤n)∧(Bk wr g1 24 [F0,S0])∧(Bk wr g6 24 (O kg.s kg.A kg.n kg.c))∧(Zr wr w.heap.size kg.s kg.A kg.n kg.c (gK (zs.take k))))
  (fun⟨wr,k,kg⟩=>n-k)
  (⟨ao,0,⟨false,none,0,0⟩⟩:a0×Nat×ZC) ⟨p,bJ _,((ak.ext e8).vN av),ah,Zr.zero⟩ G ⟨rfl,rfl,rfl,rfl,up⟩ ?_
 rintro⟨wr,k,kg⟩ ⟨f,_,b_2,b_3,zg⟩
 refine cR [(0,i9 A n cap),(2,a4 g1 0),(3,a4 g6 0),(4,a9 k)] wr G ⟨rfl,rfl,rfl,rfl,up⟩ ?_
 have L:ln (gK (zs.take k))≤33554432:=aE (vT bj k) (by omega)
 refine a7 (a7 ?_)
 by_cases bo:k<n
 ·refine a6 (mv 2 G (pu (v:= a9 n) G (aA G G G true (dG (a:=k) (b:=n) G G) (a1 (aY G (aW (aC (a7 (bI ?_)))))))))
  obtain⟨D,q,H,r,I,M,h⟩:=hl.at (i:=k) (by omega)
  have bu:ln ((gK (zs.take k))+(zs.getD k 0))≤33554433:=aE (dZ L (aE h.ln (hmb k))) (by decide)
  refine eI cQ 6 [] [Is (J kg.s kg.A kg.n kg.c),Is (i9 A n cap),Is (a9 k),Is (.pointer (some D)),Is (.agg #[.bool q,i9 H (ms.getD k 0) r]),ZR w.heap.size ((gK (zs.take k))+(zs.getD k 0))] [[],[],[],[1,2],[3],[0,4]] [[],[],[],[1,2],[1,2,3],[0,1,2,3,4],[0,1,2,3,4,5]] rfl
   (aJ G G (aF G G ?_) (aJ G G (aF G G ?_) (aJ G G (aF G G ?_) (aJ G G (aF G G ?_) (aJ G G (aF G G ?_) (aJ G G (aF G G ?_) dY)))))) ?_
  ·exact fun _ au=>aG (lo aB (b_3.ext au) (O kg.s kg.A kg.n kg.c) G G G (aI G aK G))
  ·exact fun _ _=>aG (mv 1 G (aI G aK G))
  ·exact fun _ _=>aG (mv 1 G (aI G aK G))
  ·exact fun _ _=>dk G G (dk G G (aG (bK G G G fQ aB.size k G D I (aI G aK G))))
  ·intro _ bg
   have e:=f.trans bg
   refine dk G G (aG (aL G G (M _ e _ _ aB) ?_))
   exact aI G aK rfl
  ·intro _ ae
   have e:=f.trans ae
   refine dk G G (dk G G (aG ?_))
   have bt:ln ((gK (zs.take k))+(zs.getD k 0))≤33554433:=aE (dZ L (aE h.ln (hmb k))) (by decide)
   refine cl (vs:= [J kg.s kg.A kg.n kg.c,.agg #[.bool q,i9 H (ms.getD k 0) r]]) e (lY e.size (zg.ext ae).zi (zg.le (aO L G)) (h.ext e) (aE (hmb k) (by decide))) G (by kernel_rfl) fun _ _ aq aw p=>?_
   obtain⟨_,_,_,_,rfl,bi⟩:=aq
   exact aI G aw ⟨_,_,_,_,rfl,bi⟩
  ·intro _ U
   have e:=f.trans U
   refine dk G G (dk G G (dk G G (dk G G (dk G G (cF G G fun _ _ bd _ bh=>?_)))))
   obtain⟨ab,aa,X,Z,rfl,W⟩:=bd
   have W:=W.ext bh
   refine aG ?_
   have F:=(b_3.ext U)
   refine so aB F (O ab aa X Z) e E G G G G fun am ag aj p=>(aS (eB (bG (aC (a6 (mv 1 G (aR G G G ((k+1:Nat):Int) (bN (a:=k) (b:=1) G G) (mv 1 G (aS (bW (⟨am,k+1,⟨ab,aa,X,Z⟩⟩:a0×Nat×ZC) ⟨p,(by omega),((b_2.ext U).vN aj),ag,((W.updT F aj)).cast (yT (by rw [hl.len];omega))⟩ (show n-(k+1)<n-k by omega) G ⟨rfl,rfl,rfl,rfl,up⟩))))))))))
 ·refine a6 (mv 2 G (pu (v:= a9 n) G (aA G G G false (cW (a:=k) (b:=n) G G) (a1 (aN G (cN (cI (cL (cM (aC (sr (lo aB b_3 (O kg.s kg.A kg.n kg.c) G G G ?_))))))))))))
  have o:=b_2
  refine so aB o (O kg.s kg.A kg.n kg.c) f ba G G G G fun _ V ai e=>(a1 (aU (aT [J kg.s kg.A kg.n kg.c] G ⟨⟨_,rfl,bA aB V (O kg.s kg.A kg.n kg.c) G (bq G) rfl⟩,up⟩ ?_)))
  have Y:k=n:=by omega
  exact⟨_,rfl,⟨_,_,_,_,rfl,(((zg.updT o ai)).cast (show gK (zs.take k)=gK zs by rw [Y,List.take_of_length_le (by rw [hl.len];exact aX _)])).mono hb⟩,e⟩
theorem TU (hb:b≤w.heap.size)(hl:Zl w A n cap zs ms)(hn:n≤1048576)(hmb:∀i,ms.getD i 0≤1048576)(hl2:Zl w C n cap' ys ms2)(hmb2:∀i,ms2.getD i 0≤1048576):aQ aH 54 #[i9 A n cap,i9 C n cap'] w (Gv w (T2 (ZR b (iC zs ys n)) (Is (a9 0)))):=by
 have cf:∀i,ln (zs.getD i 0)≤1048576:=jB hl hmb
 have av:∀i,ln (ys.getD i 0)≤1048576:=jB hl2 hmb2
 refine bL Tryz.func54 G (n:=32) G (bq G) (args:= [i9 A n cap,i9 C n cap']) (bF [(0,i9 A n cap),(1,i9 C n cap')] ⟨rfl,rfl,up⟩ (sr (al [F0,S0] (Ext.refl w) (fun _=>by kernel_rfl) G fun g1 _ bf bu _ f=>(mv 1 G (a1 (a7 (sr (mv 1 G (pu (v:= a9 n) G (mv 1 G (pu (v:= a9 n) G (aA G G G false (k8 (a:=n) (b:=n) G G) (aS ?_)))))))))))))
 refine aC (aN G (aW (aC (sr (pu (v:= .agg #[F0,S0]) G (cO [F0,S0] f bf.lt (fun _=>by kernel_rfl) G fun g6 _ bo W _ e8 e=>(so aB bo [F0,S0] e W G G G G fun bh bd bj D=>(a1 (a7 (sr (mv 1 G (a1 (bI ?_)))))))))))))
 refine cU (T:=a0×Nat×ZC)
  (fun⟨wr,k,kg⟩=> [(0,i9 A n cap),(1,i9 C n cap'),(4,a4 g1 0),(6,a4 g6 0),(7,a9 k)])
  (fun⟨wr,k,kg⟩=>wr)
  (fun⟨wr,k,kg⟩=>(Ext w wr)∧(k≤n)∧(Bk wr g1 24 [F0,S0])∧(Bk wr g6 24 (O kg.s kg.A kg.n kg.c))∧(Zr wr w.heap.size kg.s kg.A kg.n kg.c (iC zs ys k)))
  (fun⟨wr,k,kg⟩=>n-k)
  (⟨bh,0,⟨false,none,0,0⟩⟩:a0×Nat×ZC) ⟨D,bJ _,((bf.ext e8).vN bj),bd,Zr.zero⟩ G ⟨rfl,rfl,rfl,rfl,rfl,up⟩ ?_
 rintro⟨wr,k,kg⟩ ⟨f,_,b_2,b_3,zg⟩
 refine cR [(0,i9 A n cap),(1,i9 C n cap'),(4,a4 g1 0),(6,a4 g6 0),(7,a9 k)] wr G ⟨rfl,rfl,rfl,rfl,rfl,up⟩ ?_
 have ai:ln (iC zs ys k)≤4194304:=aE (AU cf av k) (by omega)
 refine a7 (a7 ?_)
 by_cases cj:k<n
 ·refine a6 (mv 2 G (pu (v:= a9 n) G (aA G G G true (dG (a:=k) (b:=n) G G) (a1 (aY G (aW (aC (a7 (bI ?_)))))))))
  obtain⟨V,E,ab,H,ag,aj,q⟩:=hl.at (i:=k) (by omega)
  obtain⟨M,F,I,Z,ah,ae,h⟩:=hl2.at (i:=k) (by omega)
  have ch:ln ((zs.getD k 0)*(ys.getD k 0)+(iC zs ys k))≤4194305:=aE (dZ (lA (aE q.ln (hmb k)) (aE h.ln (hmb2 k))) ai) (by decide)
  refine eI cQ 10 [] [Is (i9 A n cap),Is (a9 k),Is (.pointer (some V)),Is (.agg #[.bool E,i9 ab (ms.getD k 0) H]),Is (i9 C n cap'),Is (a9 k),Is (.pointer (some M)),Is (.agg #[.bool F,i9 I (ms2.getD k 0) Z]),Is (J kg.s kg.A kg.n kg.c),ZR w.heap.size ((zs.getD k 0)*(ys.getD k 0)+(iC zs ys k))] [[],[],[0,1],[2],[],[],[4,5],[6],[],[3,7,8]] [[],[],[0,1],[0,1,2],[],[],[4,5],[4,5,6],[],[0,1,2,3,4,5,6,7,8],[0,1,2,3,4,5,6,7,8,9]] rfl
   (aJ G G (aF G G ?_) (aJ G G (aF G G ?_) (aJ G G (aF G G ?_) (aJ G G (aF G G ?_) (aJ G G (aF G G ?_) (aJ G G (aF G G ?_) (aJ G G (aF G G ?_) (aJ G G (aF G G ?_) (aJ G G (aF G G ?_) (aJ G G (aF G G ?_) dY)))))))))) ?_
  ·exact fun _ _=>aG (mv 1 G (aI G aK G))
  ·exact fun _ _=>aG (mv 1 G (aI G aK G))
  ·exact fun _ _=>dk G G (dk G G (aG (bK G G G fQ aB.size k G V ag (aI G aK G))))
  ·intro _ bt
   have e:=f.trans bt
   refine dk G G (aG (aL G G (aj _ e _ _ aB) ?_))
   exact aI G aK rfl
  ·exact fun _ _=>aG (mv 1 G (aI G aK G))
  ·exact fun _ _=>aG (mv 1 G (aI G aK G))
  ·exact fun _ _=>dk G G (dk G G (aG (bK G G G fQ aB.size k G M ah (aI G aK G))))
  ·intro _ bg
   have e:=f.trans bg
   refine dk G G (aG (aL G G (ae _ e _ _ aB) ?_))
   exact aI G aK rfl
  ·exact fun _ bm=>aG (lo aB (b_3.ext bm) (O kg.s kg.A kg.n kg.c) G G G (aI G aK G))
  ·intro _ au
   have e:=f.trans au
   refine dk G G (dk G G (dk G G (aG ?_)))
   have ci:ln ((zs.getD k 0)*(ys.getD k 0)+(iC zs ys k))≤4194305:=aE (dZ (lA (aE q.ln (hmb k)) (aE h.ln (hmb2 k))) ai) (by decide)
   refine cl (vs:= [.agg #[.bool E,i9 ab (ms.getD k 0) H],.agg #[.bool F,i9 I (ms2.getD k 0) Z],J kg.s kg.A kg.n kg.c]) e (IC e.size (q.ext e) (aE (hmb k) (by decide)) (h.ext e) (aE (hmb2 k) (by decide)) (zg.ext au).zi (zg.le (aO ai G))) G (by kernel_rfl) fun _ _ bz bw D=>?_
   obtain⟨_,_,_,_,rfl,ce⟩:=bz
   exact aI G bw ⟨_,_,_,_,rfl,ce⟩
  ·intro _ ao
   have e:=f.trans ao
   refine dk G G (dk G G (dk G G (dk G G (dk G G (dk G G (dk G G (dk G G (dk G G (cF G G fun _ _ aq _ az=>?_)))))))))
   obtain⟨X,Y,U,L,rfl,r⟩:=aq
   have r:=r.ext az
   refine aG ?_
   have o:=(b_3.ext ao)
   refine so aB o (O X Y U L) e W G G G G fun ba ak aa D=>(aS (eB (bG (aC (a6 (mv 1 G (aR G G G ((k+1:Nat):Int) (bN (a:=k) (b:=1) G G) (mv 1 G (aS (bW (⟨ba,k+1,⟨X,Y,U,L⟩⟩:a0×Nat×ZC) ⟨D,(by omega),((b_2.ext ao).vN aa),ak,((r.updT o aa)).cast rfl⟩ (show n-(k+1)<n-k by omega) G ⟨rfl,rfl,rfl,rfl,rfl,up⟩))))))))))
 ·refine a6 (mv 2 G (pu (v:= a9 n) G (aA G G G false (cW (a:=k) (b:=n) G G) (a1 (aN G (cN (cI (cL (cM (aC (sr (lo aB b_3 (O kg.s kg.A kg.n kg.c) G G G ?_))))))))))))
  have p:=b_2
  refine so aB p (O kg.s kg.A kg.n kg.c) f bu G G G G fun _ am aw e=>(mv 1 G (a1 (aU (aT [J kg.s kg.A kg.n kg.c,I0] G ⟨⟨_,rfl,bA aB am (O kg.s kg.A kg.n kg.c) G (bq G) rfl⟩,rfl,up⟩ ?_))))
  have ar:k=n:=by omega
  exact⟨_,rfl,⟨_,_,rfl,⟨_,_,_,_,rfl,(((zg.updT p aw)).cast (show iC zs ys k=iC zs ys n by rw [ar])).mono hb⟩,rfl⟩,e⟩
theorem TT (hb:b≤w.heap.size)(hl:Zl w A n cap zs ms)(hn:n≤1048576)(hmb:∀i,ms.getD i 0≤1048576)(hl2:Zl w C m cap' ys ms2)(hmb2:∀i,ms2.getD i 0≤1048576)(hne:n≠m):aQ aH 54 #[i9 A n cap,i9 C m cap'] w (Gv w (T2 (ZR b 0) (Is (a9 2)))):=by
 refine bL Tryz.func54 G (n:=32) G (bq G) (args:= [i9 A n cap,i9 C m cap']) (bF [(0,i9 A n cap),(1,i9 C m cap')] ⟨rfl,rfl,up⟩ (sr (al [F0,S0] (Ext.refl w) (fun _=>by kernel_rfl) G fun _ q e f _ p=>(mv 1 G (a1 (a7 (sr (mv 1 G (pu (v:= a9 n) G (mv 1 G (pu (v:= a9 m) G (aA G G G true (x9 (a:=n) (b:=m) G G) (aS ?_)))))))))))))
 refine aC (aY G (sr (pu (v:= .agg #[F0,S0]) G (so aB e [F0,S0] p f G G G G fun _ o r h=>(mv 1 G (a1 (aU (bU (aT [.agg #[F0,S0],a9 2] G ⟨⟨_,rfl,bA aB o [F0,S0] G (bq G) rfl⟩,rfl,up⟩ ?_)))))))))
 exact⟨_,rfl,⟨_,_,rfl,⟨_,_,_,_,rfl,(((Zr.zero (w:=q) (base:=w.heap.size)).updT e r)).mono hb⟩,rfl⟩,h⟩
theorem T8 (hb:b≤w.heap.size)(hl:Zl w A n cap zs ms)(hn:n≤1048576)(hmb:∀i,ms.getD i 0≤1048576)(hl2:Zl w C n cap' ys ms2)(hmb2:∀i,ms2.getD i 0≤1048576):aQ aH 72 #[i9 A n cap,i9 C n cap'] w (Gv w (T2 (ZR b (iC zs ys n)) (Is (a9 0)))):=by
 have cf:∀i,ln (zs.getD i 0)≤1048576:=jB hl hmb
 have av:∀i,ln (ys.getD i 0)≤1048576:=jB hl2 hmb2
 refine bL Tryz.func72 G (n:=32) G (bq G) (args:= [i9 A n cap,i9 C n cap']) (bF [(0,i9 A n cap),(1,i9 C n cap')] ⟨rfl,rfl,up⟩ (sr (al [F0,S0] (Ext.refl w) (fun _=>by kernel_rfl) G fun g1 _ bf bu _ f=>(mv 1 G (a1 (a7 (sr (mv 1 G (pu (v:= a9 n) G (mv 1 G (pu (v:= a9 n) G (aA G G G false (k8 (a:=n) (b:=n) G G) (aS ?_)))))))))))))
 refine aC (aN G (aW (aC (sr (pu (v:= .agg #[F0,S0]) G (cO [F0,S0] f bf.lt (fun _=>by kernel_rfl) G fun g6 _ bo W _ e8 e=>(so aB bo [F0,S0] e W G G G G fun bh bd bj D=>(a1 (a7 (sr (mv 1 G (pu (v:= a9 n) G (mv 1 G ?_)))))))))))))
 refine a1 (bI ?_)
 refine cU (T:=a0×Nat×ZC)
  (fun⟨wr,k,kg⟩=> [(0,i9 A n cap),(1,i9 C n cap'),(4,a4 g1 0),(6,a4 g6 0),(16,a9 n),(17,a9 k)])
  (fun⟨wr,k,kg⟩=>wr)
  (fun⟨wr,k,kg⟩=>(Ext w wr)∧(k≤n)∧(Bk wr g1 24 [F0,S0])∧(Bk wr g6 24 (O kg.s kg.A kg.n kg.c))∧(Zr wr w.heap.size kg.s kg.A kg.n kg.c (iC zs ys k)))
  (fun⟨wr,k,kg⟩=>n-k)
  (⟨bh,0,⟨false,none,0,0⟩⟩:a0×Nat×ZC) ⟨D,bJ _,((bf.ext e8).vN bj),bd,Zr.zero⟩ G ⟨rfl,rfl,rfl,rfl,rfl,rfl,up⟩ ?_
 rintro⟨wr,k,kg⟩ ⟨f,_,b_2,b_3,zg⟩
 refine cR [(0,i9 A n cap),(1,i9 C n cap'),(4,a4 g1 0),(6,a4 g6 0),(16,a9 n),(17,a9 k)] wr G ⟨rfl,rfl,rfl,rfl,rfl,rfl,up⟩ ?_
 have ai:ln (iC zs ys k)≤4194304:=aE (AU cf av k) (by omega)
 refine a7 ?_
 by_cases cj:k<n
 ·refine a6 (aA G G G true (dG (a:=k) (b:=n) G G) (a1 (a7 (aY G (aW (aC (a7 (bI (sr (mv 2 G (a1 ?_)))))))))))
  obtain⟨V,E,ab,H,ag,aj,q⟩:=hl.at (i:=k) (by omega)
  obtain⟨M,F,I,Z,ah,ae,h⟩:=hl2.at (i:=k) (by omega)
  have ch:ln ((zs.getD k 0)*(ys.getD k 0)+(iC zs ys k))≤4194305:=aE (dZ (lA (aE q.ln (hmb k)) (aE h.ln (hmb2 k))) ai) (by decide)
  refine eI cQ 10 [] [Is (i9 A n cap),Is (a9 k),Is (.pointer (some V)),Is (.agg #[.bool E,i9 ab (ms.getD k 0) H]),Is (i9 C n cap'),Is (a9 k),Is (.pointer (some M)),Is (.agg #[.bool F,i9 I (ms2.getD k 0) Z]),Is (J kg.s kg.A kg.n kg.c),ZR w.heap.size ((zs.getD k 0)*(ys.getD k 0)+(iC zs ys k))] [[],[],[0,1],[2],[],[],[4,5],[6],[],[3,7,8]] [[],[],[0,1],[0,1,2],[],[],[4,5],[4,5,6],[],[0,1,2,3,4,5,6,7,8],[0,1,2,3,4,5,6,7,8,9]] rfl
   (aJ G G (aF G G ?_) (aJ G G (aF G G ?_) (aJ G G (aF G G ?_) (aJ G G (aF G G ?_) (aJ G G (aF G G ?_) (aJ G G (aF G G ?_) (aJ G G (aF G G ?_) (aJ G G (aF G G ?_) (aJ G G (aF G G ?_) (aJ G G (aF G G ?_) dY)))))))))) ?_
  ·exact fun _ _=>aG (mv 1 G (aI G aK G))
  ·exact fun _ _=>aG (mv 1 G (aI G aK G))
  ·exact fun _ _=>dk G G (dk G G (aG (bK G G G fQ aB.size k G V ag (aI G aK G))))
  ·intro _ bt
   have e:=f.trans bt
   refine dk G G (aG (aL G G (aj _ e _ _ aB) ?_))
   exact aI G aK rfl
  ·exact fun _ _=>aG (mv 1 G (aI G aK G))
  ·exact fun _ _=>aG (mv 1 G (aI G aK G))
  ·exact fun _ _=>dk G G (dk G G (aG (bK G G G fQ aB.size k G M ah (aI G aK G))))
  ·intro _ bg
   have e:=f.trans bg
   refine dk G G (aG (aL G G (ae _ e _ _ aB) ?_))
   exact aI G aK rfl
  ·exact fun _ bm=>aG (lo aB (b_3.ext bm) (O kg.s kg.A kg.n kg.c) G G G (aI G aK G))
  ·intro _ au
   have e:=f.trans au
   refine dk G G (dk G G (dk G G (aG ?_)))
   have ci:ln ((zs.getD k 0)*(ys.getD k 0)+(iC zs ys k))≤4194305:=aE (dZ (lA (aE q.ln (hmb k)) (aE h.ln (hmb2 k))) ai) (by decide)
   refine cl (vs:= [.agg #[.bool E,i9 ab (ms.getD k 0) H],.agg #[.bool F,i9 I (ms2.getD k 0) Z],J kg.s kg.A kg.n kg.c]) e (I3 e.size (q.ext e) (aE (hmb k) (by decide)) (h.ext e) (aE (hmb2 k) (by decide)) (zg.ext au).zi (zg.le (aO ai G))) G (by kernel_rfl) fun _ _ bz bw D=>?_
   obtain⟨_,_,_,_,rfl,ce⟩:=bz
   exact aI G bw ⟨_,_,_,_,rfl,ce⟩
  ·intro _ ao
   have e:=f.trans ao
   refine dk G G (dk G G (dk G G (dk G G (dk G G (dk G G (dk G G (dk G G (dk G G (cF G G fun _ _ aq _ az=>?_)))))))))
   obtain⟨X,Y,U,L,rfl,r⟩:=aq
   have r:=r.ext az
   refine aG ?_
   have o:=(b_3.ext ao)
   refine so aB o (O X Y U L) e W G G G G fun ba ak aa D=>(aS (eB (bG (aC (a6 (aR G G G ((k+1:Nat):Int) (bN (a:=k) (b:=1) G G) (mv 1 G (aS (bW (⟨ba,k+1,⟨X,Y,U,L⟩⟩:a0×Nat×ZC) ⟨D,(by omega),((b_2.ext ao).vN aa),ak,((r.updT o aa)).cast rfl⟩ (show n-(k+1)<n-k by omega) G ⟨rfl,rfl,rfl,rfl,rfl,rfl,up⟩)))))))))
 ·refine a6 (aA G G G false (cW (a:=k) (b:=n) G G) (a1 (a7 (aN G (cN (cI (cL (cM (aC (sr (lo aB b_3 (O kg.s kg.A kg.n kg.c) G G G ?_)))))))))))
  have p:=b_2
  refine so aB p (O kg.s kg.A kg.n kg.c) f bu G G G G fun _ am aw e=>(mv 1 G (a1 (aU (aT [J kg.s kg.A kg.n kg.c,I0] G ⟨⟨_,rfl,bA aB am (O kg.s kg.A kg.n kg.c) G (bq G) rfl⟩,rfl,up⟩ ?_))))
  have ar:k=n:=by omega
  exact⟨_,rfl,⟨_,_,rfl,⟨_,_,_,_,rfl,(((zg.updT p aw)).cast (show iC zs ys k=iC zs ys n by rw [ar])).mono hb⟩,rfl⟩,e⟩
theorem T7 (hb:b≤w.heap.size)(hl:Zl w A n cap zs ms)(hn:n≤1048576)(hmb:∀i,ms.getD i 0≤1048576)(hl2:Zl w C m cap' ys ms2)(hmb2:∀i,ms2.getD i 0≤1048576)(hne:n≠m):aQ aH 72 #[i9 A n cap,i9 C m cap'] w (Gv w (T2 (ZR b 0) (Is (a9 2)))):=by
 refine bL Tryz.func72 G (n:=32) G (bq G) (args:= [i9 A n cap,i9 C m cap']) (bF [(0,i9 A n cap),(1,i9 C m cap')] ⟨rfl,rfl,up⟩ (sr (al [F0,S0] (Ext.refl w) (fun _=>by kernel_rfl) G fun _ q e f _ p=>(mv 1 G (a1 (a7 (sr (mv 1 G (pu (v:= a9 n) G (mv 1 G (pu (v:= a9 m) G (aA G G G true (x9 (a:=n) (b:=m) G G) (aS ?_)))))))))))))
 refine aC (aY G (sr (pu (v:= .agg #[F0,S0]) G (so aB e [F0,S0] p f G G G G fun _ o r h=>(mv 1 G (a1 (aU (bU (aT [.agg #[F0,S0],a9 2] G ⟨⟨_,rfl,bA aB o [F0,S0] G (bq G) rfl⟩,rfl,up⟩ ?_)))))))))
 exact⟨_,rfl,⟨_,_,rfl,⟨_,_,_,_,rfl,(((Zr.zero (w:=q) (base:=w.heap.size)).updT e r)).mono hb⟩,rfl⟩,h⟩
theorem RD (h:ln x≤N):ln (x/y)≤N+2:=by
 by_cases h0:y=0
 ·subst h0;rw [Int.ediv_zero];exact bJ _
 have h1:=Int.mul_ediv_add_emod x y
 have h2:=s7 x h0
 have f:=Int.emod_lt x h0
 have e:(x/y*y).natAbs≤x.natAbs+y.natAbs:=by rw [Int.mul_comm];omega
 rw [Int.natAbs_mul] at e
 have o:(x/y).natAbs≤x.natAbs+1:=by
  refine Nat.le_of_mul_le_mul_right (c:=y.natAbs) ?_ (by omega)
  have:x.natAbs*1≤x.natAbs*y.natAbs:=fN _ (by omega)
  rw [dO];omega
 refine aE (vV (y:=(x.natAbs:Int)+1) (by omega)) ?_
 exact aE (dZ (a:=N) (b:=1) (by rw [kT];exact h) (show ln 1≤1 by decide+kernel)) (by omega)
theorem BD {q r:Int}(h0:y≠0)(he:q*y+r=x)(h1:0≤r)(h2:r<(y.natAbs:Int):=by omega):q=x/y∧r=x%y:=by
 have E:=Int.mul_ediv_add_emod x y
 have D:=s7 x h0
 have F:=Int.emod_lt x h0
 have f:(q-x/y)*y=x%y-r:=by rw [Int.sub_mul,Int.mul_comm (x/y)];omega
 have p:q-x/y=0:=by
  by_cases h:q-x/y=0
  ·exact h
  ·exfalso
   have o:((q-x/y)*y).natAbs<y.natAbs:=by rw [f];omega
   rw [Int.natAbs_mul] at o
   have:1*y.natAbs≤(q-x/y).natAbs*y.natAbs:=eC _ (by omega)
   omega
 have e:q=x/y:=by omega
 refine⟨e,?_⟩
 rw [p,Int.zero_mul] at f
 omega
theorem UpdO.refl (A:Option a8)(w:a0):UpdO A w w:=⟨CF _ _⟩
theorem UpdO.trans {b c:a0}(h:UpdO A a b)(k:UpdO A b c):UpdO A a c:=
 ⟨⟨k.by_.os.trans h.by_.os,k.by_.tape.trans h.by_.tape,k.by_.output.trans h.by_.output,aE h.by_.size k.by_.size,
  fun i hi e=>(k.by_.block i (cS hi h.by_.size) e).trans (h.by_.block i hi e)⟩⟩
theorem UpdO.then_ext {b c:a0}(h:UpdO A a b)(e:Ext b c):UpdO A a c:=
 ⟨⟨e.below.os.trans h.by_.os,e.below.tape.trans h.by_.tape,e.below.output.trans h.by_.output,aE h.by_.size e.below.size,
  fun i hi f=>(e.below.block i (cS hi h.by_.size)).trans (h.by_.block i hi f)⟩⟩
theorem Own.at1 {f:Nat→aD}(h:Own w lb T 1 A n c (xs.map f))(hi:i<n):∃p,A.map (·.add (i*1))=some p∧w.cell? p=some (f (xs.getD i 0)):=by
 have hl:=h.rv.len
 rw [List.length_map,dK] at hl
 obtain⟨a,rfl,e⟩:=h.rv.get i (by omega)
 refine⟨a.add i,by rw [dK];rfl,?_⟩
 rw [e]
 simp [bE,iK,bR (show i<xs.length by omega)]
theorem nN {f:Nat→aD}(h:Own w b T 1 A n c (l.map f)):l.length=n:=by have:=h.rv.len;rwa [List.length_map,dK] at this
theorem Own.take1 {f:Nat→aD}(h:Own w lb T 1 A n c (xs.map f))(hk:k≤n):Own w lb T 1 A k c ((xs.take k).map f):=by
 have:=h.take hk
 rwa [dK,←List.map_take] at this
theorem FM {f:Nat→aD}(h:Own w lb T 1 A n c (xs.map f))(hi:i<n)(h1:(f u).oneCell'=true)(hcl:(f u).cells= #[f u])(hT:∀w,(sizeOf T').run P w= .ok 1 w)(hp:A.map (·.add (i*1))=some p):∃w',(storeVar T' p (f u)).run P w= .ok () w'∧Own w' lb T 1 A n c ((xs.set i u).map f)∧UpdO A w w':=by
 rcases h with⟨_,rfl,_,_⟩ | ⟨g,cs,rfl,hb,r,hn,q,hl,o⟩
 ·omega
 ·rw [pP,eH,dK,iE,eQ] at hp
  subst hp
  rw [dK] at hl o
  obtain⟨w',hr,e,D,_⟩:=sL (P:=P) (v:=f u) hT hcl r (show i<cs.length by omega) h1 _ rfl
  refine⟨w',hr,bT ⟨g,_,rfl,hb,e,hn,q,by rw [List.length_set,hl,dK],?_⟩,D.updO⟩
  rw [dK,List.take_set,o,List.map_set]
section
variable {P:Program}{Q:Exit→Act→a0→Prop}{n:Nat}{l:Fr}{w:a0}{ops:Array Oper}{rest:List Oper}{d:Nat}{ty:aV}{pos:String}{af:Array Edge}{gd:Option (Nat×Bool)}
theorem CZ {x y:Operand}{f:Nat→aD}(hw:d5 ops l gd=some true)(hx:bP l x=some (.pointer (some p)))(hy:bP l y=some (f u))(hp:A.map (·.add (i*1))=some p)(h:Own w lb T 1 A m c (xs.map f))(hi:i<m)(h1:(f u).oneCell'=true)(hcl:(f u).cells= #[f u])(hT:∀w,(sizeOf T').run P w= .ok 1 w)(k:∀w',Own w' lb T 1 A m c ((xs.set i u).map f)→UpdO A w w'→wl P ops Q n rest l w'):wl P ops Q n (⟨none,.store T' x y,ty,pos,af,gd⟩::rest) l w:=by
 obtain⟨w',hr,h2,e⟩:=FM (P:=P) (T':=T') h hi h1 hcl hT hp
 exact qA hw hx hy hr (k w' h2 e)
end
theorem nK:Tryz.prog.underlying 140=some (.slice 3):=Tryz.underlying140
theorem mP (w:a0):(sizeOf 3).run aH w= .ok 1 w:=by kernel_rfl
def OI (b:Nat)(ds:List Nat)(v:aD)(w:a0):Prop:=∃A n c,v= i9 A n c∧ds.length=n∧Own w b 3 1 A n c (ds.map I6)
theorem TF (hx:Wi w A n c m)(hl:n≤274877906943):aQ aH 177 #[i9 A n c] w (Gv w (OI w.heap.size (db 65536 m))):=by
 obtain⟨xs,h1,rfl⟩:=hx
 refine (oX h1 hl).mono fun e w' h=>?_
 obtain⟨A,n,c,rfl,h1,h2,o,f⟩:=h
 exact⟨_,rfl,⟨A,n,c,rfl,h1.out.symm,o⟩,f⟩
theorem P5 (n:Nat):cJ n (d8 .u8 0)=(cJ n 0).map B8:=by rw [List.map_replicate];rfl
def E1:List Nat:= [48,49,50,51,52,53,54,55,56,57,97,98,99,100,101,102,103,104,105,106,107,108,109,110,111,112,113,114,115,116,117,118,119,120,121,122]
theorem qH (h:d<36):E1.getD d 0=sgn d:=by
 have key:∀d,d<36→E1.getD d 0=sgn d:=by decide
 exact key d h
theorem QC (hb:0<base)(hj:0<j)(hjl:j≤l.length)(hl:l.length=ds.length)(ht:l.take j=ds.take j)(h:nb 65536 (ds.drop j)=base*nb 65536 (l.drop j)+rest):nb 65536 (ds.drop (j-1))=base*nb 65536 ((l.set (j-1) ((rest*65536+l.getD (j-1) 0)/base)).drop (j-1))+(rest*65536+l.getD (j-1) 0)%base:=by
 have p:l.getD (j-1) 0=ds.getD (j-1) 0:=by
  have h1:(l.take j).getD (j-1) 0=(ds.take j).getD (j-1) 0:=by rw [ht]
  simpa [bE,List.getElem?_take,show j-1<j by omega] using h1
 have f:ds.drop (j-1)=ds.getD (j-1) 0::ds.drop j:=by
  rw [wR (by omega),show j-1+1=j by omega]
 have D:(l.set (j-1) ((rest*65536+l.getD (j-1) 0)/base)).drop (j-1)=((rest*65536+l.getD (j-1) 0)/base)::l.drop j:=by
  rw [wR (by rw [List.length_set];omega)]
  congr 1
  ·simp [bE,show j-1<l.length by omega]
  ·rw [show j-1+1=j by omega,List.drop_set_of_lt (by omega)]
 rw [f,D,kG,kG,h,←p]
 have e:=lM (rest*65536+l.getD (j-1) 0) base
 generalize (rest*65536+l.getD (j-1) 0)/base=q at e⊢
 generalize (rest*65536+l.getD (j-1) 0)%base=r at e⊢
 have o:base*(q+65536*nb 65536 (l.drop j))=base*q+65536*(base*nb 65536 (l.drop j)):=by rw [cZ,Nat.mul_left_comm]
 rw [o]
 omega
theorem QH (hi:i<l.length)(hl:l.length=ds.length)(ht:l.drop i=ds.drop i)(h:nb 65536 (l.take i)+65536^i*c=nb 65536 (ds.take i)*base+v):nb 65536 ((l.set i ((l.getD i 0*base+c)%65536)).take (i+1))+65536^(i+1)*((l.getD i 0*base+c)/65536)=nb 65536 (ds.take (i+1))*base+v:=by
 have e:l.getD i 0=ds.getD i 0:=by
  have h1:(l.drop i).getD 0 0=(ds.drop i).getD 0 0:=by rw [ht]
  simpa [bE,List.getElem?_drop] using h1
 rw [nR 65536 hi,dJ,bY,j5,←cZ,Nat.mod_add_div,hJ 65536 ds i (by omega),dO,←e,cZ,bY]
 omega
theorem E4 (h:dv c<36)(hn:¬(65≤c∧c≤90)):sgn (dv c)=c:=by
 unfold dv at h⊢
 unfold sgn
 (repeat' split at h) <;> (repeat' split) <;> omega
theorem QD (h:rest<base)(hd:d<65536):(rest*65536+d)/base<65536:=by
 rw [tZ (by omega)]
 have:(rest+1)*65536≤base*65536:=eC _ h
 omega
theorem VH {a:Nat}(hb:0<b)(hr:r<b)(h:a=b*q+r):a/b=q∧r=a%b:=by
 subst h
 exact⟨by rw [nC hb,gV hr,eS],by rw [tW,fO hr]⟩
theorem F1 (hc:c≤255):aQ aH 262 #[.int .u8 ((c:Nat):Int)] w (Gv w (Is (a9 (if dv c<36 then ((dv c:Nat):Int) else 99)))):=by
 refine bL Tryz.func262 G (n:=23) G (bq G) (args:= [.int .u8 ((c:Nat):Int)]) (bF [(0,.int .u8 ((c:Nat):Int))] ⟨rfl,up⟩ (sr (mv 1 G (a1 (a7 (a7 ?_))))))
 by_cases r:c≥65
 ·by_cases D:c≤90
  ·refine a6 (mv 1 G (aA G G G true (fY (a:=c) (b:=65) G G) (mv 2 G (aA G G G true (m4 (a:=c) (b:=90) G G) (pu (v:= no) G (a1 (aY G (sr (mv 1 G (aR G G G ((c-65:Nat):Int) (WX (a:=c) (b:=65) G G (by omega) (by omega)) (dF G G (v:= a9 (IntKind.i64.wrap ((c-65:Nat):Int))) (v':= a9 ((c-65:Nat):Int)) (m0 (by first | omega | exact hle64)) (aR G G G (((c-65)+10:Nat):Int) (bN (a:=c-65) (b:=10) G G) (mv 1 G ?_)))))))))))))
   refine a1 (aU (bU (aT [a9 (((c-65)+10:Nat):Int)] G ⟨rfl,up⟩ ?_)))
   have q:dv c=(c-65)+10:=by unfold dv;rw [if_neg (by omega),if_neg (by omega),if_pos (by omega)];omega
   exact⟨_,rfl,(show d8 .i64 ((((c-65)+10:Nat):Int))=_ by rw [q,if_pos (by omega)]),(Ext.refl w)⟩
  ·refine a6 (mv 1 G (aA G G G true (fY (a:=c) (b:=65) G G) (mv 2 G (aA G G G false (m5 (a:=c) (b:=90) G G) (pu (v:= t9) G (a1 (aN G (aW (aC (a7 (sr (mv 1 G (aS ?_)))))))))))))
   refine aC (bI ?_)
   refine cU (T:=a0×Nat)
    (fun⟨wr,i⟩=> [(0,.int .u8 ((c:Nat):Int)),(3,a9 i)])
    (fun⟨wr,i⟩=>wr)
    (fun⟨wr,i⟩=>(Ext w wr)∧(i≤36)∧(∀j,j<i→sgn j≠c))
    (fun⟨wr,i⟩=>36-i)
    (⟨w,0⟩:a0×Nat) ⟨(Ext.refl w),(bJ _),(fun j hj=>absurd hj (Nat.not_lt_zero _))⟩ G ⟨rfl,rfl,up⟩ ?_
   rintro⟨wr,i⟩ ⟨f,hi,o⟩
   refine cR [(0,.int .u8 ((c:Nat):Int)),(3,a9 i)] wr G ⟨rfl,rfl,up⟩ (a7 (a7 ?_))
   by_cases e:i<36
   ·refine a6 (mv 1 G (aA G G G true (dG (a:=i) (b:=36) G G) (a1 (aY G (aW (aC (a7 (bI (a7 ?_)))))))))
    by_cases p:([48,49,50,51,52,53,54,55,56,57,97,98,99,100,101,102,103,104,105,106,107,108,109,110,111,112,113,114,115,116,117,118,119,120,121,122]).getD i 0=c
    ·refine a6 (mv 1 G (f9 (bs:= [48,49,50,51,52,53,54,55,56,57,97,98,99,100,101,102,103,104,105,106,107,108,109,110,111,112,113,114,115,116,117,118,119,120,121,122]) (i:=i) G G G Tryz.underlying9 (by decide) (mv 1 G (aA G G G true (fM (a:=([48,49,50,51,52,53,54,55,56,57,97,98,99,100,101,102,103,104,105,106,107,108,109,110,111,112,113,114,115,116,117,118,119,120,121,122]).getD i 0) (b:=c) G G) (a1 (aY G (sr (mv 2 G (a1 (aU (gM (bU (nY ?_)))))))))))))
     refine gM (bU (aT [a9 i] G ⟨rfl,up⟩ ?_))
     have q:dv c=i:=by rw [←p];exact (congrArg dv (qH e)).trans (IR e)
     exact⟨_,rfl,(show d8 .i64 ((i:Nat):Int)=_ by rw [q,if_pos e]),f⟩
    ·refine a6 (mv 1 G (f9 (bs:= [48,49,50,51,52,53,54,55,56,57,97,98,99,100,101,102,103,104,105,106,107,108,109,110,111,112,113,114,115,116,117,118,119,120,121,122]) (i:=i) G G G Tryz.underlying9 (by decide) (mv 1 G (aA G G G false (fT (a:=([48,49,50,51,52,53,54,55,56,57,97,98,99,100,101,102,103,104,105,106,107,108,109,110,111,112,113,114,115,116,117,118,119,120,121,122]).getD i 0) (b:=c) G G) (a1 (aN G (aW (bG (aC (a6 (mv 1 G (aR G G G ((i+1:Nat):Int) (bN (a:=i) (b:=1) G G) (mv 1 G ?_)))))))))))))
     refine aS (bW (⟨wr,i+1⟩:a0×Nat) ⟨f,(by omega),(fun j hj=>by by_cases h:j=i;(· subst h;rw [←qH e];exact p);(· exact o j (by omega)))⟩ (show 36-(i+1)<36-i by omega) G ⟨rfl,rfl,up⟩)
   ·refine a6 (mv 1 G (aA G G G false (cW (a:=i) (b:=36) G G) (a1 (aN G (cN (cI (cL (cM (aC (sr (mv 1 G (a1 (aU ?_)))))))))))))
    refine aT [a9 99] G ⟨rfl,up⟩ ?_
    have q:¬dv c<36:=fun h=>o (dv c) (by omega) (E4 h (by omega))
    exact⟨_,rfl,(show d8 .i64 (99:Int)=_ by rw [if_neg q]),f⟩
 ·refine a6 (mv 1 G (aA G G G false (k9 (a:=c) (b:=65) G G) (mv 3 G (pu (v:= t9) G (a1 (aN G (aW (aC (a7 (sr (mv 1 G (a1 (bI ?_)))))))))))))
  refine cU (T:=a0×Nat)
   (fun⟨wr,i⟩=> [(0,.int .u8 ((c:Nat):Int)),(3,a9 i)])
   (fun⟨wr,i⟩=>wr)
   (fun⟨wr,i⟩=>(Ext w wr)∧(i≤36)∧(∀j,j<i→sgn j≠c))
   (fun⟨wr,i⟩=>36-i)
   (⟨w,0⟩:a0×Nat) ⟨(Ext.refl w),(bJ _),(fun j hj=>absurd hj (Nat.not_lt_zero _))⟩ G ⟨rfl,rfl,up⟩ ?_
  rintro⟨wr,i⟩ ⟨f,hi,o⟩
  refine cR [(0,.int .u8 ((c:Nat):Int)),(3,a9 i)] wr G ⟨rfl,rfl,up⟩ (a7 (a7 ?_))
  by_cases e:i<36
  ·refine a6 (mv 1 G (aA G G G true (dG (a:=i) (b:=36) G G) (a1 (aY G (aW (aC (a7 (bI (a7 ?_)))))))))
   by_cases p:([48,49,50,51,52,53,54,55,56,57,97,98,99,100,101,102,103,104,105,106,107,108,109,110,111,112,113,114,115,116,117,118,119,120,121,122]).getD i 0=c
   ·refine a6 (mv 1 G (f9 (bs:= [48,49,50,51,52,53,54,55,56,57,97,98,99,100,101,102,103,104,105,106,107,108,109,110,111,112,113,114,115,116,117,118,119,120,121,122]) (i:=i) G G G Tryz.underlying9 (by decide) (mv 1 G (aA G G G true (fM (a:=([48,49,50,51,52,53,54,55,56,57,97,98,99,100,101,102,103,104,105,106,107,108,109,110,111,112,113,114,115,116,117,118,119,120,121,122]).getD i 0) (b:=c) G G) (a1 (aY G (sr (mv 2 G (a1 (aU (gM (bU (nY ?_)))))))))))))
    refine gM (bU (aT [a9 i] G ⟨rfl,up⟩ ?_))
    have q:dv c=i:=by rw [←p];exact (congrArg dv (qH e)).trans (IR e)
    exact⟨_,rfl,(show d8 .i64 ((i:Nat):Int)=_ by rw [q,if_pos e]),f⟩
   ·refine a6 (mv 1 G (f9 (bs:= [48,49,50,51,52,53,54,55,56,57,97,98,99,100,101,102,103,104,105,106,107,108,109,110,111,112,113,114,115,116,117,118,119,120,121,122]) (i:=i) G G G Tryz.underlying9 (by decide) (mv 1 G (aA G G G false (fT (a:=([48,49,50,51,52,53,54,55,56,57,97,98,99,100,101,102,103,104,105,106,107,108,109,110,111,112,113,114,115,116,117,118,119,120,121,122]).getD i 0) (b:=c) G G) (a1 (aN G (aW (bG (aC (a6 (mv 1 G (aR G G G ((i+1:Nat):Int) (bN (a:=i) (b:=1) G G) (mv 1 G ?_)))))))))))))
    refine aS (bW (⟨wr,i+1⟩:a0×Nat) ⟨f,(by omega),(fun j hj=>by by_cases h:j=i;(· subst h;rw [←qH e];exact p);(· exact o j (by omega)))⟩ (show 36-(i+1)<36-i by omega) G ⟨rfl,rfl,up⟩)
  ·refine a6 (mv 1 G (aA G G G false (cW (a:=i) (b:=36) G G) (a1 (aN G (cN (cI (cL (cM (aC (sr (mv 1 G (a1 (aU ?_)))))))))))))
   refine aT [a9 99] G ⟨rfl,up⟩ ?_
   have q:¬dv c<36:=fun h=>o (dv c) (by omega) (E4 h (by omega))
   exact⟨_,rfl,(show d8 .i64 (99:Int)=_ by rw [if_neg q]),f⟩
theorem P7 (ho:Own w lb 3 1 A n c (ds.map I6))(hwf:Wfb 65536 ds)(hbl:2≤base)(hbu:base≤36)(hn:n≤1099511627776):aQ aH 261 #[i9 A n c,a9 base] w (fun e w'=>∃es:List Nat,e= .returned (a9 ((nb 65536 ds%base:Nat):Int))∧Own w' lb 3 1 A n c (es.map I6)∧es.length=n∧Wfb 65536 es∧nb 65536 es=nb 65536 ds/base∧UpdO A w w'):=by
 have ab:=nN ho
 refine bL Tryz.func261 G (n:=32) G (bq G) (args:= [i9 A n c,a9 base]) (bF [(0,i9 A n c),(1,a9 base)] ⟨rfl,rfl,up⟩ (sr (mv 1 G (a1 (sr (mv 1 G (a1 (a7 (sr (mv 1 G (pu (v:= a9 n) G (aR G G G (((n:Nat):Int)-1) (fH G) (mv 1 G ?_)))))))))))))
 refine a1 (bI ?_)
 refine cU (T:=a0×Nat×Nat×List Nat)
  (fun⟨wr,j,rest,l⟩=> [(0,i9 A n c),(1,a9 base),(5,a9 rest),(6,a9 (((j:Nat):Int)-1))])
  (fun⟨wr,j,rest,l⟩=>wr)
  (fun⟨wr,j,rest,l⟩=>(UpdO A w wr)∧(j≤n)∧(Own wr lb 3 1 A n c (l.map I6))∧(l.length=n)∧(Wfb 65536 l)∧(l.take j=ds.take j)∧(rest<base)∧(nb 65536 (ds.drop j)=base*nb 65536 (l.drop j)+rest))
  (fun⟨wr,j,rest,l⟩=>j)
  (⟨w,n,0,ds⟩:a0×Nat×Nat×List Nat) ⟨(UpdO.refl A w),(aX _),ho,(nN ho),hwf,rfl,(by omega),(by rw [List.drop_of_length_le (by have:=nN ho;omega)];rfl)⟩ G ⟨rfl,rfl,rfl,rfl,up⟩ ?_
 rintro⟨wr,j,rest,l⟩ ⟨D,hj,F,q,o,p,r,M⟩
 refine cR [(0,i9 A n c),(1,a9 base),(5,a9 rest),(6,a9 (((j:Nat):Int)-1))] wr G ⟨rfl,rfl,rfl,rfl,up⟩ (a7 (a7 ?_))
 by_cases Y:0<j
 ·have H:((j:Nat):Int)-1=((j-1:Nat):Int):=by omega
  refine bF [(0,i9 A n c),(1,a9 base),(5,a9 rest),(6,a9 (((j:Nat):Int)-1))] ⟨rfl,rfl,rfl,rfl,up⟩ ?_
  rw [H]
  refine a6 (mv 1 G (aA G G G true (fY (a:=j-1) (b:=0) G G) (a1 (aY G (aW (aC (a7 (bI (a7 ?_)))))))))
  have ae:=iT (b:=65536) o (j-1)
  refine a6 (mv 1 G (aR G G G ((rest*65536:Nat):Int) (pI (a:=rest) (b:=65536) G G) (mv 2 G ?_)))
  obtain⟨p1,W,U⟩:=(F).at1 (i:=j-1) (by omega)
  refine bK G G G nK mP (j-1) G p1 W (aL G G (cT xF U) (aR G G G (((rest*65536)+(l.getD (j-1) 0):Nat):Int) (bN (a:=rest*65536) (b:=l.getD (j-1) 0) G G) (mv 1 G (a1 (sr (mv 4 G (aR G G G ((((rest*65536)+(l.getD (j-1) 0))/base:Nat):Int) (lG (a:=(rest*65536)+(l.getD (j-1) 0)) (b:=base) G G) ?_)))))))
  obtain⟨p2,E,_⟩:=(F).at1 (i:=j-1) (by omega)
  refine bK G G G nK mP (j-1) G p2 E ?_
  have X:=F
  refine CZ (f:=I6) (u:=((rest*65536)+(l.getD (j-1) 0))/base) (i:=j-1) G G G E X (by omega) G G mP fun Z V L=>?_
  have I:UpdO A w Z:=D.trans L
  refine a1 (a6 (mv 2 G (aR G G G ((((rest*65536)+(l.getD (j-1) 0))%base:Nat):Int) (kV (a:=(rest*65536)+(l.getD (j-1) 0)) (b:=base) G G) (mv 1 G (aS (bG (aC (a6 (mv 1 G (aR G G G (((j-1:Nat):Int)-1) (fH G) (mv 1 G (aS (bW (⟨Z,j-1,(rest*65536+l.getD (j-1) 0)%base,l.set (j-1) (((rest*65536)+(l.getD (j-1) 0))/base)⟩:a0×Nat×Nat×List Nat) ⟨I,(by omega),V,(by rw [List.length_set];exact q),(iF o _ (hx:=(QD r (iT o _)))),(by rw [List.take_set_of_le (aX _)];have h:=congrArg (List.take (j-1)) p;rwa [List.take_take,List.take_take,g7 (by omega)] at h),(fV _ (by omega)),(QC (by omega) Y (by omega) (by omega) p M)⟩ (show j-1<j by omega) G ⟨rfl,rfl,rfl,rfl,up⟩)))))))))))))
 ·refine a6 (mv 1 G (aA G G G false (eF) (a1 (aN G (cN (cI (cL (cM (aC (sr (mv 2 G (a1 (aU ?_)))))))))))))
  refine aT [a9 rest] G ⟨rfl,up⟩ ?_
  have hj:j=0:=by omega
  subst hj
  rw [gQ,gQ] at M
  obtain⟨h1,h2⟩:=VH (by omega) r M
  exact⟨l,(by rw [←h2];rfl),F,q,o,h1.symm,D⟩
theorem RL (h:(wd m).length≤N):(db 65536 m).length≤4*N:=by
 refine jI fZ ?_
 have h1:=kH m
 refine cS h1 ?_
 rw [pM,←Nat.pow_mul]
 exact eW (by decide) (by omega)
theorem RJ (h:(wd m).length≤1048576):(db 65536 m).length≤4194304:=RL h
theorem QP (hn:0<n)(h:l.getD (n-1) 0≠0):nb 65536 l≠0:=by
 have hl:n-1<l.length:=by
  refine nD fun e=>h ?_
  rw [bE,gW e];rfl
 rw [l9 65536 l (n-1),mH hl,kG]
 rw [bE,bR hl,lJ] at h
 have o:65536^(n-1)*1≤65536^(n-1)*(l[n-1]+65536*nb 65536 (l.drop (n-1+1))):=fN _ (by omega)
 have f:0<65536^(n-1):=gC (by decide)
 omega
theorem P2 (hl:hi.length=n)(hin:i<n)(h:∀j,j<i→hi.getD (n-1-j) 0=L.getD j 0):∀j,j<i+1→(hi.set (n-1-i) (L.getD i 0)).getD (n-1-j) 0=L.getD j 0:=by
 intro j hj
 by_cases e:j=i
 ·subst e
  simp [bE,show n-1-j<hi.length by omega]
 ·have h1:=h j (by omega)
  rw [bE,List.getElem?_set_ne (by omega),←bE]
  exact h1
theorem P3 (hl:hi.length=n)(hL:L.length=n)(h:∀j,j<n→hi.getD (n-1-j) 0=L.getD j 0):hi=L.reverse:=by
 refine List.ext_getElem (by rw [List.length_reverse];omega) fun k h1 h2=>?_
 have e:=h (n-1-k) (by omega)
 rw [show n-1-(n-1-k)=k by omega,bE,bR h1,bE,bR (by omega)] at e
 rw [List.getElem_reverse]
 simp only [lJ] at e
 rw [e]
 congr 1
 omega
theorem NI (h:∀d,d∈l→d<36):(l.map sgn).getD i 0≤255:=by
 by_cases hi:i<l.length
 ·rw [bE,iK,bR hi]
  have:=E3 (h _ (List.getElem_mem hi))
  simp only [pP,lJ];omega
 ·rw [bE,gW (by rw [List.length_map];omega)];exact bJ _
theorem P8 (hx:Wi w A an ac m)(hal:an≤1048576)(hbl:2≤base)(hbu:base≤36):aQ aH 232 #[i9 A an ac,a9 base] w (Gv w (T2 (Is (.string (aM (dS base m)))) (Is (a9 0)))):=by
 have ab:(wd m).length≤1048576:=aE hx.len hal
 have dh:=rB hbl ab
 refine bL Tryz.func232 G (n:=72) G (bq G) (args:= [i9 A an ac,a9 base]) (bF [(0,i9 A an ac),(1,a9 base)] ⟨rfl,rfl,up⟩ (sr (mv 2 G (a1 (a7 (sr (mv 1 G (aA G G G false (cW (a:=base) (b:=2) G G) (mv 2 G (aA G G G false (fC (a:=base) (b:=36) G G) (pu (v:= t9) G (a1 (aN G ?_)))))))))))))
 refine aW (aC (sr (mv 1 G (cl (vs:= [i9 A an ac]) (Ext.refl w) (TF hx (by omega)) G (by kernel_rfl) fun _ v1 r3 _ f=>?_))))
 obtain⟨A4,n4,c4,rfl,ct,ci⟩:=r3
 refine mv 1 G (a1 (sr (mv 1 G (a1 (a7 (bI ?_))))))
 refine cU (T:=a0×List Nat×List Nat×Option a8×Nat×Nat×Option a8×Nat×Nat)
  (fun⟨wr,lds,l,DA,dn,dc,OA,on,oc⟩=> [(1,a9 base),(6,i9 DA dn dc),(7,i9 OA on oc)])
  (fun⟨wr,lds,l,DA,dn,dc,OA,on,oc⟩=>wr)
  (fun⟨wr,lds,l,DA,dn,dc,OA,on,oc⟩=>(Ext w wr)∧(Own wr w.heap.size 5 1 OA on oc ((lds.map sgn).map B8))∧(Own wr w.heap.size 3 1 DA dn dc (l.map I6))∧(Wfb 65536 l)∧(dn=0∨l.getD (dn-1) 0≠0)∧(db base m=lds++db base (nb 65536 l))∧(dn≤1099511627776))
  (fun⟨wr,lds,l,DA,dn,dc,OA,on,oc⟩=>nb 65536 l)
  (⟨v1,[],db 65536 m,A4,n4,c4,none,0,0⟩:a0×List Nat×List Nat×Option a8×Nat×Nat×Option a8×Nat×Nat) ⟨f,(Own.nil _ _ _ _),ci,(kX fZ m),(by rw [←ct];exact wU fZ m),(by rw [iO fZ];rfl),(by have:=RJ ab;omega)⟩ G ⟨rfl,rfl,rfl,up⟩ ?_
 rintro⟨wr,lds,l,DA,dn,dc,OA,on,oc⟩ ⟨f,M,X,da,bh,Y,_⟩
 refine cR [(1,a9 base),(6,i9 DA dn dc),(7,i9 OA on oc)] wr G ⟨rfl,rfl,rfl,up⟩ ?_
 have df:=nN X
 have aw:=nN M
 rw [List.length_map] at aw
 have dd:lds.length≤(db base m).length:=by rw [Y,eN];omega
 refine a7 (a7 ?_)
 by_cases de:dn>0
 ·have aa:nb 65536 l≠0:=QP (by omega) (bh.resolve_left (by omega))
  have ae:nb 65536 l%base<36:=cS (fV _ (by omega)) hbu
  refine a6 (mv 1 G (pu (v:= a9 dn) G (aA G G G true (fB (a:=dn) (b:=0) G G) (a1 (aY G (aW (aC (bI (sr (mv 2 G ?_))))))))))
  have ak:=X
  refine d9 G G (vs:= [i9 DA dn dc,a9 base]) (by kernel_rfl) (by decide) (P7 ak da hbl hbu (by omega)) ?_
  rintro _ _ ⟨o,rfl,cg,_,V,r,Z⟩
  refine dA ?_
  have W:=Z.ext f (fun p hp=>(ak.block p hp).1)
  refine mv 1 G (a1 (sr (mv 2 G (f9 (bs:= [48,49,50,51,52,53,54,55,56,57,97,98,99,100,101,102,103,104,105,106,107,108,109,110,111,112,113,114,115,116,117,118,119,120,121,122]) (i:=nb 65536 l%base) G G G Tryz.underlying9 (by decide) (fW G G (k:=1) (e:=5) [.int .u8 ((([48,49,50,51,52,53,54,55,56,57,97,98,99,100,101,102,103,104,105,106,107,108,109,110,111,112,113,114,115,116,117,118,119,120,121,122]).getD (nb 65536 l%base) 0:Nat):Int)] (fun _=>by kernel_rfl) fun _ _ nb=>?_)))))
  have bo:=nb.bk
  have am:=nb.ext
  clear nb
  have bw:=W.trans am
  have U:=((M.updOT ak (by decide) Z).ext am)
  refine oM G G G jR rD G U bw.size [.int .u8 ((([48,49,50,51,52,53,54,55,56,57,97,98,99,100,101,102,103,104,105,106,107,108,109,110,111,112,113,114,115,116,117,118,119,120,121,122]).getD (nb 65536 l%base) 0:Nat):Int)] G (qQ _ bo) G fun H F ba bt ai _=>?_
  have ch:=ai.ext bw (fun p hp=>(U.block p hp).1)
  have ar:Own ba w.heap.size 5 1 H (on+1) F (((lds.map sgn)++ [([48,49,50,51,52,53,54,55,56,57,97,98,99,100,101,102,103,104,105,106,107,108,109,110,111,112,113,114,115,116,117,118,119,120,121,122]).getD (nb 65536 l%base) 0]).map B8):=by have h:=bt;simp only [List.map_append,iJ,j7] at h⊢;exact h
  refine mv 1 G (a1 (bI ?_))
  refine cU (T:=a0×Nat)
   (fun⟨wr,k⟩=> [(1,a9 base),(6,i9 DA k dc),(7,i9 H (on+1) F)])
   (fun⟨wr,k⟩=>wr)
   (fun⟨wr,k⟩=>(Ext w wr)∧(Own wr w.heap.size 5 1 H (on+1) F (((lds.map sgn)++ [([48,49,50,51,52,53,54,55,56,57,97,98,99,100,101,102,103,104,105,106,107,108,109,110,111,112,113,114,115,116,117,118,119,120,121,122]).getD (nb 65536 l%base) 0]).map B8))∧(Own wr w.heap.size 3 1 DA k dc ((o.take k).map I6))∧(k≤dn)∧(nb 65536 (o.take k)=nb 65536 o))
   (fun⟨wr,k⟩=>k)
   (⟨ba,dn⟩:a0×Nat) ⟨ch,ar,(by rw [List.take_of_length_le (by omega)];exact ((cg.ext am).updOT U (by decide) ai)),(aX _),(by rw [List.take_of_length_le (by omega)])⟩ G ⟨rfl,rfl,rfl,up⟩ ?_
  rintro⟨wr,k⟩ ⟨f,M,X,_,L⟩
  refine cR [(1,a9 base),(6,i9 DA k dc),(7,i9 H (on+1) F)] wr G ⟨rfl,rfl,rfl,up⟩ (a7 (a7 ?_))
  by_cases ck:k>0
  ·by_cases az:(o.take k).getD (k-1) 0=0
   ·refine a6 (mv 1 G (pu (v:= a9 k) G (aA G G G true (fB (a:=k) (b:=0) G G) (mv 3 G (pu (v:= a9 k) G (aR G G G ((k-1:Nat):Int) (gI (a:=k) (b:=1) G G) ?_))))))
    obtain⟨co,bj,bv⟩:=(X).at1 (i:=k-1) (by omega)
    refine bK G G G nK mP (k-1) G co bj (aL G G (cT xF bv) (aA G G G true (fM (a:=(o.take k).getD (k-1) 0) (b:=0) G G) (pu (v:= no) G (a1 (aY G (aW (aC (bI (a6 (mv 2 G (pu (v:= a9 k) G (aR G G G ((k-1:Nat):Int) (gI (a:=k) (b:=1) G G) (lT G G nK mP (lo:=0) (hi:=k-1) G G (by omega) (by have:=(X).rv.le;omega) (v:= i9 DA (k-1) dc) (sJ _ _ _) (by decide) ?_)))))))))))))
    refine mv 1 G (aS (bG (bW (⟨wr,k-1⟩:a0×Nat) ⟨f,M,(by have h:=(X.take1 (k:=k-1) (by omega));rwa [List.take_take,g7 (by omega)] at h),(by omega),(by have h:=vL 65536 o (k-1) (by omega) (by have h:=az;rwa [wD (by omega)] at h);rw [iH ck] at h;rw [←h];exact L)⟩ (show k-1<k by omega) G ⟨rfl,rfl,rfl,up⟩)))
   ·refine a6 (mv 1 G (pu (v:= a9 k) G (aA G G G true (fB (a:=k) (b:=0) G G) (mv 3 G (pu (v:= a9 k) G (aR G G G ((k-1:Nat):Int) (gI (a:=k) (b:=1) G G) ?_))))))
    obtain⟨cv,bm,bg⟩:=(X).at1 (i:=k-1) (by omega)
    refine bK G G G nK mP (k-1) G cv bm (aL G G (cT xF bg) (aA G G G false (fT (a:=(o.take k).getD (k-1) 0) (b:=0) G G) (pu (v:= t9) G (a1 (aN G (cN (cI (cL (cM (bG (bW (⟨wr,lds++ [nb 65536 l%base],o.take k,DA,k,dc,H,on+1,F⟩:a0×List Nat×List Nat×Option a8×Nat×Nat×Option a8×Nat×Nat) ⟨f,(by rw [List.map_append,iJ,j7,←qH ae];exact M),X,(jE V _),(bT az),(by rw [Y,List.append_assoc,L,r,kU hbl aa];rfl),(by omega)⟩ (show nb 65536 (o.take k)<nb 65536 l by rw [L,r];exact jM (by omega) (by omega)) G ⟨rfl,rfl,rfl,up⟩)))))))))))
  ·refine a6 (mv 1 G (pu (v:= a9 k) G (aA G G G false (fC (a:=k) (b:=0) G G) (mv 8 G (pu (v:= t9) G (a1 (aN G (cN (cI (cL (cM (bG (bW (⟨wr,lds++ [nb 65536 l%base],o.take k,DA,k,dc,H,on+1,F⟩:a0×List Nat×List Nat×Option a8×Nat×Nat×Option a8×Nat×Nat) ⟨f,(by rw [List.map_append,iJ,j7,←qH ae];exact M),X,(jE V _),(Or.inl (by omega)),(by rw [Y,List.append_assoc,L,r,kU hbl aa];rfl),(by omega)⟩ (show nb 65536 (o.take k)<nb 65536 l by rw [L,r];exact jM (by omega) (by omega)) G ⟨rfl,rfl,rfl,up⟩)))))))))))))
 ·have cx:l= []:=pV.1 (by omega)
  have q:db base m=lds:=by rw [Y,cx];show lds++db base 0=lds;rw [jK,List.append_nil]
  refine a6 (mv 1 G (pu (v:= a9 dn) G (aA G G G false (fC (a:=dn) (b:=0) G G) (a1 (aN G (cN (cI (cL (cM (aC (a7 (a7 ?_))))))))))))
  by_cases bu:on=0
  ·refine a6 (mv 1 G (pu (v:= a9 on) G (aA G G G true (fM (a:=on) (b:=0) G G) (a1 (aY G (sr (mv 2 G (a1 (aU (bU (aT [.string (aM ([48])),I0] G ⟨rfl,rfl,up⟩ ?_)))))))))))
   have ao:m=0:=by rw [←BP hbl,q];exact pV.1 (by omega)
   have I:([48]:List Nat)=dS base m:=by subst ao;rfl
   exact⟨_,rfl,⟨_,_,rfl,(show Value.string _=Value.string _ from congrArg (fun l=>Value.string (aM l)) I),rfl⟩,f⟩
  ·refine a6 (mv 1 G (pu (v:= a9 on) G (aA G G G false (fT (a:=on) (b:=0) G G) (a1 (aN G (aW (aC (sr (mv 1 G (pu (v:= a9 on) G (l6 G (k:=on) G G G jR rD G fun E cu ah aj aq=>?_)))))))))))
   rw [P5] at aj
   have cf:w.heap.size≤E:=by rw [←ah];exact f.size
   have bf:∀p,OA=some p→p.block≠E:=fun p hp=>by have:=((M).block p hp).2;omega
   clear ah
   have W:=f.trans aq
   refine mv 1 G (a1 (a7 (sr (mv 1 G (a1 (bI ?_))))))
   refine cU (T:=a0×Nat×List Nat)
    (fun⟨wr,i,hi⟩=> [(7,i9 OA on oc),(9,i9 (some ⟨E,0,none⟩) on on),(10,a9 i)])
    (fun⟨wr,i,hi⟩=>wr)
    (fun⟨wr,i,hi⟩=>(Ext w wr)∧(Own wr w.heap.size 5 1 OA on oc ((lds.map sgn).map B8))∧(Bk wr E 5 (hi.map B8))∧(hi.length=on)∧(i≤on)∧(∀j,j<i→hi.getD (on-1-j) 0=(lds.map sgn).getD j 0))
    (fun⟨wr,i,hi⟩=>on-i)
    (⟨cu,0,_⟩:a0×Nat×List Nat) ⟨W,(M.ext aq),aj,(List.length_replicate (n:=on) (a:=0)),(bJ _),(fun j hj=>absurd hj (Nat.not_lt_zero _))⟩ G ⟨rfl,rfl,rfl,up⟩ ?_
   rintro⟨wr,i,hi⟩ ⟨f,M,hb,D,_,ag⟩
   refine cR [(7,i9 OA on oc),(9,i9 (some ⟨E,0,none⟩) on on),(10,a9 i)] wr G ⟨rfl,rfl,rfl,up⟩ (a7 (a7 ?_))
   by_cases du:i<on
   ·refine a6 (mv 2 G (pu (v:= a9 on) G (aA G G G true (dG (a:=i) (b:=on) G G) (a1 (aY G (aW (aC (a7 (bI ?_)))))))))
    have dl:(lds.map sgn).getD i 0≤255:=NI (fun d hd=>by have:=kX hbl m d (by rw [q];exact hd);omega)
    refine a6 (mv 2 G (pu (v:= a9 on) G (aR G G G ((on-1:Nat):Int) (gI (a:=on) (b:=1) G G) (mv 1 G (aR G G G (((on-1)-i:Nat):Int) (gI (a:=on-1) (b:=i) G G) (mv 2 G ?_))))))
    obtain⟨cm,bz,bi⟩:=(M).at1 (i:=i) (by omega)
    refine bK G G G jR jV i G cm bz (aL G G (cT C2 bi) (bK G G G jR jV ((on-1)-i) G ⟨E,(on-1)-i,none⟩ (dN _ _) ?_))
    have au:=hb
    refine d6 G G G jV G au (gL (by rw [D];omega)) G ((hi.set ((on-1)-i) ((lds.map sgn).getD i 0)).map B8) (AJ _ _ _) fun cj ce bd _=>?_
    have W:=bd.ext f cf
    refine aS (bG (aC (a6 (mv 1 G (aR G G G ((i+1:Nat):Int) (bN (a:=i) (b:=1) G G) (mv 1 G (aS (bW (⟨cj,i+1,hi.set ((on-1)-i) ((lds.map sgn).getD i 0)⟩:a0×Nat×List Nat) ⟨W,(M.upd bd bf),ce,(iR (l:=hi) (D)),(by omega),(P2 D (by omega) ag)⟩ (show on-(i+1)<on-i by omega) G ⟨rfl,rfl,rfl,up⟩))))))))
   ·refine a6 (mv 2 G (pu (v:= a9 on) G (aA G G G false (cW (a:=i) (b:=on) G G) (a1 (aN G (cN (cI (cL (cM (aC (sr (mv 1 G (s8 (bs:=hi) (lb:=0) G G (Own.mk_ (bJ _) hb (aX _) (by rw [eA];omega) (by rw [List.length_map,D,dK]) (by rw [dK,List.take_of_length_le (by rw [List.length_map,D];exact aX _)])) ?_)))))))))))))
    refine mv 2 G (a1 (aU (aT [.string (aM hi),I0] G ⟨rfl,rfl,up⟩ ?_)))
    have ao:m≠0:=fun e=>bu (by have h:=q;rw [e,jK] at h;rw [←aw,←h];rfl)
    have I:hi=dS base m:=by rw [dS,if_neg ao,dM,q,List.map_reverse];exact P3 D (by rw [List.length_map];omega) (fun j hj=>ag j (by omega))
    exact⟨_,rfl,⟨_,_,rfl,(show Value.string _=Value.string _ from congrArg (fun l=>Value.string (aM l)) I),rfl⟩,f⟩
theorem PE (hx:Wi w A an ac m)(hal:an≤1048576):aQ aH 191 #[i9 A an ac] w (Gv w (Is (.string (aM (dS 10 m))))):=by
 refine bL Tryz.func191 G (n:=11) G (bq G) (args:= [i9 A an ac]) (bF [(0,i9 A an ac)] ⟨rfl,up⟩ (sr (mv 1 G (a1 (sr (mv 1 G (cl (vs:= [i9 A an ac,a9 10]) (Ext.refl w) (P8 hx hal (by decide) (by decide)) G (by kernel_rfl) fun _ _ f _ e=>?_)))))))
 obtain⟨_,_,rfl,rfl,rfl⟩:=f
 refine mv 1 G (pu (v:= .string (aM (dS 10 m))) G (pu (v:= a9 0) G (mv 2 G (a1 (sr (mv 2 G (a1 (aU (aT [.string (aM (dS 10 m))] G ⟨rfl,up⟩ ?_)))))))))
 exact⟨_,rfl,rfl,e⟩
theorem F2 (ho:Own w lb 3 1 A n c (ds.map I6))(hlb:lb≤w.heap.size)(hwf:Wfb 65536 ds)(hbl:2≤base)(hbu:base≤36)(hn:n≤1099511627775)(hvb:v≤36):aQ aH 263 #[i9 A n c,a9 base,a9 v] w (fun e w'=>∃A' n' c',∃es:List Nat,e= .returned (i9 A' n' c')∧Own w' lb 3 1 A' n' c' (es.map I6)∧n'≤n+1∧es.length=n'∧Wfb 65536 es∧nb 65536 es=nb 65536 ds*base+v∧UpdO A w w'):=by
 have ak:=nN ho
 refine bL Tryz.func263 G (n:=37) G (bq G) (args:= [i9 A n c,a9 base,a9 v]) (bF [(0,i9 A n c),(1,a9 base),(2,a9 v)] ⟨rfl,rfl,rfl,up⟩ (sr (mv 1 G (a1 (a7 (sr (mv 1 G (a1 (bI ?_)))))))))
 refine cU (T:=a0×Nat×Nat×List Nat)
  (fun⟨wr,i,cy,l⟩=> [(0,i9 A n c),(1,a9 base),(2,a9 cy),(7,a9 i)])
  (fun⟨wr,i,cy,l⟩=>wr)
  (fun⟨wr,i,cy,l⟩=>(UpdO A w wr)∧(i≤n)∧(Own wr lb 3 1 A n c (l.map I6))∧(l.length=n)∧(Wfb 65536 l)∧(l.drop i=ds.drop i)∧(cy≤36)∧(nb 65536 (l.take i)+65536^i*cy=nb 65536 (ds.take i)*base+v))
  (fun⟨wr,i,cy,l⟩=>n-i)
  (⟨w,0,v,ds⟩:a0×Nat×Nat×List Nat) ⟨(UpdO.refl A w),(bJ _),ho,ak,hwf,rfl,(by omega),(by rw [List.take_zero];simp [nb])⟩ G ⟨rfl,rfl,rfl,rfl,up⟩ ?_
 rintro⟨wr,i,cy,l⟩ ⟨D,hi,M,o,q,W,_,Y⟩
 refine cR [(0,i9 A n c),(1,a9 base),(2,a9 cy),(7,a9 i)] wr G ⟨rfl,rfl,rfl,rfl,up⟩ (a7 (a7 ?_))
 by_cases au:i<n
 ·refine a6 (mv 2 G (pu (v:= a9 n) G (aA G G G true (dG (a:=i) (b:=n) G G) (a1 (aY G (aW (aC (a7 (bI (a7 ?_))))))))))
  have aw:=iT (b:=65536) q i
  have ar:l.getD i 0*base≤65535*36:=j3 (by omega) hbu
  refine a6 (mv 2 G ?_)
  obtain⟨p2,ae,aj⟩:=(M).at1 (i:=i) (by omega)
  refine bK G G G nK mP i G p2 ae (aL G G (cT xF aj) (mv 1 G (aR G G G (((l.getD i 0)*base:Nat):Int) (pI (a:=l.getD i 0) (b:=base) G G) (mv 1 G (aR G G G ((((l.getD i 0)*base)+cy:Nat):Int) (bN (a:=(l.getD i 0)*base) (b:=cy) G G) (mv 1 G (a1 (sr (mv 3 G (aR G G G (((((l.getD i 0)*base)+cy)%65536:Nat):Int) (kV (a:=((l.getD i 0)*base)+cy) (b:=65536) G G) ?_))))))))))
  obtain⟨p3,V,_⟩:=(M).at1 (i:=i) (by omega)
  refine bK G G G nK mP i G p3 V ?_
  have ab:=M
  refine CZ (f:=I6) (u:=(((l.getD i 0)*base)+cy)%65536) (i:=i) G G G V ab (by omega) G G mP fun v5 ag ah=>?_
  have p:UpdO A w v5:=D.trans ah
  refine a1 (a6 (mv 1 G (aR G G G (((((l.getD i 0)*base)+cy)/65536:Nat):Int) (lG (a:=((l.getD i 0)*base)+cy) (b:=65536) G G) (mv 1 G (aS (bG (aC (a6 (mv 1 G (aR G G G ((i+1:Nat):Int) (bN (a:=i) (b:=1) G G) (mv 1 G (aS (bW (⟨v5,i+1,(l.getD i 0*base+cy)/65536,l.set i ((((l.getD i 0)*base)+cy)%65536)⟩:a0×Nat×Nat×List Nat) ⟨p,(by omega),ag,(by rw [List.length_set];exact o),(iF q _ (hx:=(fV _ (by decide)))),(by rw [List.drop_set_of_lt (by omega)];have h:=congrArg (List.drop 1) W;rwa [List.drop_drop,List.drop_drop] at h),(by omega),(QH (by omega) (by omega) W Y)⟩ (show n-(i+1)<n-i by omega) G ⟨rfl,rfl,rfl,rfl,up⟩)))))))))))))
 ·have aa:i=n:=by omega
  rw [List.take_of_length_le (by omega),List.take_of_length_le (by omega),aa] at Y
  refine a6 (mv 2 G (pu (v:= a9 n) G (aA G G G false (cW (a:=i) (b:=n) G G) (a1 (aN G (cN (cI (cL (cM (aC (a7 (a7 ?_))))))))))))
  by_cases ao:cy>0
  ·refine a6 (mv 1 G (aA G G G true (fB (a:=cy) (b:=0) G G) (a1 (aY G (a6 (mv 2 G (fW G G (k:=1) (e:=3) [a9 cy] (fun _=>by kernel_rfl) fun _ v9 nb=>?_)))))))
   have X:=nb.bk
   have I:=nb.ext
   clear nb
   have p:UpdO A w v9:=D.then_ext I
   have L:=(M.ext I)
   refine oM G G G nK pE G L (aE hlb p.size) [a9 cy] G (qQ _ X) G fun E r Z F U _=>?_
   have ai:UpdO A w Z:=p.trans U
   have H:Own Z lb 3 1 E (n+1) r ((l++ [cy]).map I6):=by have h:=F;simp only [List.map_append,iJ,j7] at h⊢;exact h
   refine mv 1 G (a1 (sr (mv 2 G (a1 (aU (aT [i9 E (n+1) r] G ⟨rfl,up⟩ ?_))))))
   exact⟨E,(n+1),r,l++ [cy],rfl,H,(aX _),(by rw [eN,o];rfl),(xJ q (fun x hx=>by rw [mD] at hx;omega)),(by rw [AB,o];exact Y),ai⟩
  ·refine a6 (mv 1 G (aA G G G false (fC (a:=cy) (b:=0) G G) (a1 (aN G (aW (aC (sr (mv 2 G (a1 (aU (aT [i9 A n c] G ⟨rfl,up⟩ ?_)))))))))))
   exact⟨A,n,c,l,rfl,M,(Nat.le_succ _),o,q,(by rw [show cy=0 by omega,gJ,eS] at Y;exact Y),D⟩
theorem UE (hb:b≤w.heap.size)(h:Own w lb 3 1 A n c (ds.map I6))(hw:Wfb 65536 ds)(hl:n≤1099511627775):aQ aH 179 #[i9 A n c] w (Gv w (WR b (nb 65536 ds))):=(vH ⟨h.rv,hw⟩ hl).mono (gw hb)
theorem EZ (hc:c≤255)(h:dv c<36):aQ aH 262 #[.int .u8 ((c:Nat):Int)] w (Gv w (Is (a9 ((dv c:Nat):Int)))):=by
 have h1:=F1 (w:=w) hc
 rw [if_pos h] at h1;exact h1
theorem P9 (hbs:∀b,b∈bs→b<256)(hlen:bs.length≤17179869184)(hbl:2≤base)(hbu:base≤36)(hg:fR base bs):aQ aH 233 #[.string (aM bs),a9 base] w (Gv w (T2 (WR w.heap.size (d4 base (bs.map dv))) (Is (a9 0)))):=by
 refine bL Tryz.func233 G (n:=36) G (bq G) (args:= [.string (aM bs),a9 base]) (bF [(0,.string (aM bs)),(1,a9 base)] ⟨rfl,rfl,up⟩ (sr (mv 2 G (a1 (a7 (sr (mv 1 G (aA G G G false (cW (a:=base) (b:=2) G G) (mv 2 G (aA G G G false (fC (a:=base) (b:=36) G G) (pu (v:= t9) G (a1 (aN G ?_)))))))))))))
 refine aW (aC (a7 (a7 ?_)))
 have Z:=hg.1
 refine a6 (mv 1 G (q9 (a:=bs) (b:= []) G G G hbs (by decide) false (yW (Z)) (a1 (aN G (aW (aC (sr (mv 1 G (a1 (a7 (sr (mv 1 G (aS ?_)))))))))))))
 refine aC (bI ?_)
 refine cU (T:=a0×Nat×List Nat×Option a8×Nat×Nat)
  (fun⟨wr,i,l,DA,dn,dc⟩=> [(0,.string (aM bs)),(1,a9 base),(6,i9 DA dn dc),(7,a9 i)])
  (fun⟨wr,i,l,DA,dn,dc⟩=>wr)
  (fun⟨wr,i,l,DA,dn,dc⟩=>(Ext w wr)∧(i≤bs.length)∧(Own wr w.heap.size 3 1 DA dn dc (l.map I6))∧(dn≤i)∧(Wfb 65536 l)∧(nb 65536 l=d4 base ((bs.take i).map dv))∧(∀c,c∈bs.take i→dv c<base))
  (fun⟨wr,i,l,DA,dn,dc⟩=>bs.length-i)
  (⟨w,0,[],none,0,0⟩:a0×Nat×List Nat×Option a8×Nat×Nat) ⟨(Ext.refl w),(bJ _),(Own.nil _ _ _ _),(bJ _),(C4 _),rfl,(fun c U=>absurd U (by simp))⟩ G ⟨rfl,rfl,rfl,rfl,up⟩ ?_
 rintro⟨wr,i,l,DA,dn,dc⟩ ⟨r,hi,hD,_,M,hv,L⟩
 refine cR [(0,.string (aM bs)),(1,a9 base),(6,i9 DA dn dc),(7,a9 i)] wr G ⟨rfl,rfl,rfl,rfl,up⟩ (a7 (a7 ?_))
 by_cases e:i<bs.length
 ·refine a6 (mv 2 G (dF G G (v:= a9 (((aM bs).size:Nat):Int)) (v':= a9 ((bs.length:Nat):Int)) (by rw [dU]) (aA G G G true (dG (a:=i) (b:=bs.length) G G) (a1 (aY G (aW (aC (a7 (bI (a7 ?_))))))))))
  have q:bs.getD i 0≤255:=by have:=hbs _ (wE e);omega
  have E:=hg.2 _ (wE e)
  refine a6 (mv 2 G (f9 (bs:=bs) (i:=i) G G G Tryz.underlying9 hbs (cl (vs:= [.int .u8 ((bs.getD i 0:Nat):Int)]) r (EZ q (cS E hbu)) G (by kernel_rfl) fun _ _ r4 e3 f=>?_)))
  obtain rfl:=r4
  refine mv 1 G (a1 (a7 (sr (mv 2 G (aA G G G false (k9 (a:=dv (bs.getD i 0)) (b:=base) G G) (a1 (aN G (aW (aC (a6 (mv 3 G ?_)))))))))))
  have F:=(hD.ext e3)
  refine d9 G G (vs:= [i9 DA dn dc,a9 base,a9 ((dv (bs.getD i 0):Nat):Int)]) (by kernel_rfl) (by decide) (F2 F f.size M hbl hbu (by omega) (by omega)) ?_
  rintro _ v6 ⟨A8,n9,W,X,rfl,D,_,_,o,H,I⟩
  refine dA ?_
  have Y:=I.ext f (fun p hp=>(F.block p hp).1)
  refine mv 1 rfl (aS (bG (aC (a6 (mv 1 rfl (aR rfl rfl rfl ((i+1:Nat):Int) (bN (a:=i) (b:=1) rfl rfl) (mv 1 rfl (aS (bW (⟨v6,i+1,X,A8,n9,W⟩:a0×Nat×List Nat×Option a8×Nat×Nat) ⟨Y,(by omega),D,(by omega),o,(by rw [H,hv,uM e,List.map_append,iJ,j7,uH]),(fun c U=>by rw [uM e] at U;rcases mF.1 U with h | h;(· exact L c h);(· rw [mD.1 h];exact E))⟩ (show bs.length-(i+1)<bs.length-i by omega) rfl ⟨rfl,rfl,rfl,rfl,trivial⟩)))))))))
 ·have V:i=bs.length:=by omega
  rw [V,List.take_length] at L hv
  refine a6 (mv 2 G (dF G G (v:= a9 (((aM bs).size:Nat):Int)) (v':= a9 ((bs.length:Nat):Int)) (by rw [dU]) (aA G G G false (cW (a:=i) (b:=bs.length) G G) (a1 (aN G (cN (cI (cL (cM (aC (sr (mv 1 G (d9 G G (vs:= [i9 DA dn dc]) (by kernel_rfl) (by decide) (by have h:=UE r.size hD M (by omega);rw [hv] at h;exact h) ?_)))))))))))))
  rintro _ _ ⟨_,rfl,ae,aa⟩
  refine dA ?_
  have f:=r.trans aa
  obtain⟨ag,ai,ab,rfl,ak,aj⟩:=ae
  refine mv 2 G (a1 (aU (aT [i9 ag ai ab,I0] G ⟨rfl,rfl,up⟩ ?_)))
  exact⟨_,rfl,⟨_,_,rfl,⟨_,_,_,rfl,ak,aj⟩,rfl⟩,f⟩
theorem PB (hbs:∀b,b∈bs→b<256)(hlen:bs.length≤17179869184)(hbl:2≤base)(hbu:base≤36)(hg:¬fR base bs):aQ aH 233 #[.string (aM bs),a9 base] w (Gv w (T2 (Is (i9 none 0 0)) (Is (a9 7)))):=by
 refine bL Tryz.func233 G (n:=36) G (bq G) (args:= [.string (aM bs),a9 base]) (bF [(0,.string (aM bs)),(1,a9 base)] ⟨rfl,rfl,up⟩ (sr (mv 2 G (a1 (a7 (sr (mv 1 G (aA G G G false (cW (a:=base) (b:=2) G G) (mv 2 G (aA G G G false (fC (a:=base) (b:=36) G G) (pu (v:= t9) G (a1 (aN G ?_)))))))))))))
 refine aW (aC (a7 (a7 ?_)))
 by_cases D:bs= []
 ·refine a6 (mv 1 G (q9 (a:=bs) (b:= []) G G G hbs (by decide) true (yV (D)) (a1 (aY G (sr (mv 2 G (a1 (aU (bU (aT [S0,a9 7] G ⟨rfl,rfl,up⟩ ?_))))))))))
  exact⟨_,rfl,⟨_,_,rfl,rfl,rfl⟩,(Ext.refl w)⟩
 ·refine a6 (mv 1 G (q9 (a:=bs) (b:= []) G G G hbs (by decide) false (yW (D)) (a1 (aN G (aW (aC (sr (mv 1 G (a1 (a7 (sr (mv 1 G (aS ?_)))))))))))))
  refine aC (bI ?_)
  refine cU (T:=a0×Nat×List Nat×Option a8×Nat×Nat)
   (fun⟨wr,i,l,DA,dn,dc⟩=> [(0,.string (aM bs)),(1,a9 base),(6,i9 DA dn dc),(7,a9 i)])
   (fun⟨wr,i,l,DA,dn,dc⟩=>wr)
   (fun⟨wr,i,l,DA,dn,dc⟩=>(Ext w wr)∧(i≤bs.length)∧(Own wr w.heap.size 3 1 DA dn dc (l.map I6))∧(dn≤i)∧(Wfb 65536 l)∧(nb 65536 l=d4 base ((bs.take i).map dv))∧(∀c,c∈bs.take i→dv c<base))
   (fun⟨wr,i,l,DA,dn,dc⟩=>bs.length-i)
   (⟨w,0,[],none,0,0⟩:a0×Nat×List Nat×Option a8×Nat×Nat) ⟨(Ext.refl w),(bJ _),(Own.nil _ _ _ _),(bJ _),(C4 _),rfl,(fun c U=>absurd U (by simp))⟩ G ⟨rfl,rfl,rfl,rfl,up⟩ ?_
  rintro⟨wr,i,l,DA,dn,dc⟩ ⟨I,hi,hD,_,aa,hv,r⟩
  refine cR [(0,.string (aM bs)),(1,a9 base),(6,i9 DA dn dc),(7,a9 i)] wr G ⟨rfl,rfl,rfl,rfl,up⟩ (a7 (a7 ?_))
  by_cases q:i<bs.length
  ·refine a6 (mv 2 G (dF G G (v:= a9 (((aM bs).size:Nat):Int)) (v':= a9 ((bs.length:Nat):Int)) (by rw [dU]) (aA G G G true (dG (a:=i) (b:=bs.length) G G) (a1 (aY G (aW (aC (a7 (bI (a7 ?_))))))))))
   have e:bs.getD i 0≤255:=by have:=hbs _ (wE q);omega
   by_cases F:dv (bs.getD i 0)<base
   ·refine a6 (mv 2 G (f9 (bs:=bs) (i:=i) G G G Tryz.underlying9 hbs (cl (vs:= [.int .u8 ((bs.getD i 0:Nat):Int)]) I (EZ e (cS F hbu)) G (by kernel_rfl) fun _ _ r4 e3 f=>?_)))
    obtain rfl:=r4
    refine mv 1 G (a1 (a7 (sr (mv 2 G (aA G G G false (k9 (a:=dv (bs.getD i 0)) (b:=base) G G) (a1 (aN G (aW (aC (a6 (mv 3 G ?_)))))))))))
    have H:=(hD.ext e3)
    refine d9 G G (vs:= [i9 DA dn dc,a9 base,a9 ((dv (bs.getD i 0):Nat):Int)]) (by kernel_rfl) (by decide) (F2 H f.size aa hbl hbu (by omega) (by omega)) ?_
    rintro _ v6 ⟨A8,n9,W,X,rfl,E,_,_,o,L,M⟩
    refine dA ?_
    have Y:=M.ext f (fun p hp=>(H.block p hp).1)
    refine mv 1 rfl (aS (bG (aC (a6 (mv 1 rfl (aR rfl rfl rfl ((i+1:Nat):Int) (bN (a:=i) (b:=1) rfl rfl) (mv 1 rfl (aS (bW (⟨v6,i+1,X,A8,n9,W⟩:a0×Nat×List Nat×Option a8×Nat×Nat) ⟨Y,(by omega),E,(by omega),o,(by rw [L,hv,uM q,List.map_append,iJ,j7,uH]),(fun c U=>by rw [uM q] at U;rcases mF.1 U with h | h;(· exact r c h);(· rw [mD.1 h];exact F))⟩ (show bs.length-(i+1)<bs.length-i by omega) rfl ⟨rfl,rfl,rfl,rfl,trivial⟩)))))))))
   ·refine a6 (mv 2 G (f9 (bs:=bs) (i:=i) G G G Tryz.underlying9 hbs (cl (vs:= [.int .u8 ((bs.getD i 0:Nat):Int)]) I (F1 e) G (by kernel_rfl) fun _ _ Z _ f=>?_)))
    obtain rfl:=Z
    refine mv 1 G (a1 (a7 (sr (mv 2 G (aA G G G true (pG (by split <;> omega)) (a1 (aY G (sr (mv 2 G (a1 (aU (bU (gM ?_)))))))))))))
    refine bU (nY (gM (bU (aT [S0,a9 7] G ⟨rfl,rfl,up⟩ ?_))))
    exact⟨_,rfl,⟨_,_,rfl,rfl,rfl⟩,f⟩
  ·have V:i=bs.length:=by omega
   rw [V,List.take_length] at r hv
   exact absurd ⟨D,r⟩ hg
theorem PC (hbs:∀b,b∈bs→b<256)(hlen:bs.length≤17179869184)(hg:fR 10 bs):aQ aH 192 #[.string (aM bs)] w (Gv w (T2 (WR w.heap.size (d4 10 (bs.map dv))) (Is (a9 0)))):=by
 refine bL Tryz.func192 G (n:=8) G (bq G) (args:= [.string (aM bs)]) (bF [(0,.string (aM bs))] ⟨rfl,up⟩ (sr (mv 2 G (a1 (sr (mv 1 G (cl (vs:= [.string (aM bs),a9 10]) (Ext.refl w) (P9 hbs hlen (by decide) (by decide) hg) G (by kernel_rfl) fun _ _ p _ e=>?_)))))))
 obtain⟨_,_,rfl,⟨h,o,f,rfl,q,r⟩,rfl⟩:=p
 refine pu (v:= i9 h o f) G (pu (v:= a9 0) G (mv 2 G (a1 (aU (aT [i9 h o f,I0] G ⟨rfl,rfl,up⟩ ?_)))))
 exact⟨_,rfl,⟨_,_,rfl,⟨_,_,_,rfl,q,r⟩,rfl⟩,e⟩
theorem PD (hbs:∀b,b∈bs→b<256)(hlen:bs.length≤17179869184)(hg:¬fR 10 bs):aQ aH 192 #[.string (aM bs)] w (Gv w (T2 (Is (i9 none 0 0)) (Is (a9 7)))):=by
 refine bL Tryz.func192 G (n:=8) G (bq G) (args:= [.string (aM bs)]) (bF [(0,.string (aM bs))] ⟨rfl,up⟩ (sr (mv 2 G (a1 (sr (mv 1 G (cl (vs:= [.string (aM bs),a9 10]) (Ext.refl w) (PB hbs hlen (by decide) (by decide) hg) G (by kernel_rfl) fun _ _ f _ e=>?_)))))))
 obtain⟨_,_,rfl,rfl,rfl⟩:=f
 refine pu (v:= i9 none 0 0) G (pu (v:= a9 7) G (mv 2 G (a1 (aU (aT [S0,a9 7] G ⟨rfl,rfl,up⟩ ?_)))))
 exact⟨_,rfl,⟨_,_,rfl,rfl,rfl⟩,e⟩
end Go.Proofs.YtkepckmdjncehaaGreatDoor
