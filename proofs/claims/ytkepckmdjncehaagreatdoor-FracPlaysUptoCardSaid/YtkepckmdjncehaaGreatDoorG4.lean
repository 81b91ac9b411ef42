/- Parts Ref3b, Ref3c, Ref3d, Ref5, Ref3f, Rf6, Rf8, Near, Lg5b, IntEb, Law5d, Fbm, joined. -/
import Derived.Test.YtkepckmdjncehaaGreatDoorG3

open Go renaming Addr → aB, Calls → aP, Value → aM, World → a6, bodyPost_ret → fO
open Int renaming emod_lt_of_pos → k9, emod_nonneg → j0
open List renaming drop_zero → gP, getD_eq_getElem?_getD → bK, length_cons → eN, replicate → cJ
open Nat renaming add_assoc → iM, add_mul → dK, add_sub_cancel → mC, add_zero → fC, div_eq_of_lt → i8, div_le_self → fH, le_refl → aZ, le_trans → a8, lt_of_le_of_lt → jY, lt_of_lt_of_le → dJ, lt_of_not_le → mU, mod_eq_of_lt → gN, mod_lt → f7, mul_add → cI, mul_assoc → bX, mul_comm → cL, mul_le_mul → jP, mul_le_mul_left → fJ, mul_le_mul_right → eI, mul_one → dV, mul_pos → iL, mul_right_comm → sH, mul_zero → gM, pow_add → dU, pow_pos → gB, pow_succ → cW, zero_add → eJ, zero_le → bJ
open Or renaming inl → cH, inr → cO
open Go.Proofs.Tryz renaming prog → aN
open Go.Value renaming int → dP
namespace Go.Proofs.YtkepckmdjncehaaGreatDoor
set_option maxHeartbeats 8000000
variable {A A0 Aa Ab Ad Ae B D:Option aB}{N R X Y Z a b c ca cap cap' cb cd ce d' f g i j k m n na ne q rest:Nat}{d r u v x y z:Int}{es l l' l0 ld lq lr xs ys:List Nat}{s sa sb sd se t:Bool}{w w0:a6}
open Go.RowKit
def TK (g N q s:Nat)(l es:List Nat)(w:a6)(e:Ending)(w':a6):Prop:=
 e= .returned (.tuple #[])∧Upd g w w'∧∃l',Bk w' g 65 (l'.map bF)∧l'.length=N∧Wfb 4294967296 l'∧nb 4294967296 l'+q*nb 4294967296 es*4294967296^s=nb 4294967296 l
theorem xC {s e T d c':Nat}(h:nb b l+q*nb b (es.take i)*b^s=Y+b^(s+i)*c)(hd0:l.getD (s+i) 0=d)(hT:T=c+q*e)(he:nb b (es.take (i+1))=nb b (es.take i)+b^i*e)(hk:s+i<l.length:=by omega)(hd:d'+T=d+b*c':=by omega):nb b (l.set (s+i) d')+q*nb b (es.take (i+1))*b^s=Y+b^(s+(i+1))*c':=by
 have h1:=vB b hk d'
 rw [hd0] at h1
 have p:q*nb b (es.take (i+1))*b^s=q*nb b (es.take i)*b^s+b^(s+i)*(q*e):=by
  rw [he,cI,dK,dU]
  congr 1
  grind
 have f:b^(s+i)*(d'+T)=b^(s+i)*(d+b*c'):=by rw [hd]
 have o:b^(s+(i+1))*c'=b^(s+i)*(b*c'):=by rw [←iM,cW,bX]
 rw [hT] at f
 simp only [cI] at f
 rw [p,o]
 omega
theorem FL (h:es.length≤i):nb b (es.take (i+1))=nb b (es.take i)+b^i*0:=by
 rw [List.take_of_length_le (by omega),List.take_of_length_le h];rfl
theorem FM {s:Nat}(hw:Wfb 4294967296 l')(hl:l'.length=N)(he:es.length=m)(hs:s+m≤N)(hi:s+i≤N)(hq:q*nb 4294967296 es*4294967296^s≤nb 4294967296 l)(h:nb 4294967296 l'+q*nb 4294967296 (es.take i)*4294967296^s=nb 4294967296 l+4294967296^(s+i)*c)(hend:s+i=N∨m≤i∧c=0):nb 4294967296 l'+q*nb 4294967296 es*4294967296^s=nb 4294967296 l:=by
 have e:m≤i:=by omega
 rw [List.take_of_length_le (by omega)] at h
 have o:c=0:=by
  rcases hend with h1 | h1
  ·have h2:=oL hw
   rw [hl] at h2
   rw [h1] at h
   refine Nat.eq_zero_of_not_pos fun f=>?_
   have p:4294967296^N*1≤4294967296^N*c:=fJ _ f
   omega
  ·exact h1.2
 rw [o,gM,fC] at h
 exact h
theorem uU {s:Nat}(hb0:Bk w g 65 (l.map bF))(hl0:l.length=N)(hwl:Wfb 4294967296 l)(hy:Rd w D m cd es)(hwe:Wfb 4294967296 es)(hne:0<cd→∀a,D=some a→a.block≠g)(hqb:q<4294967296)(hq:q*nb 4294967296 es*4294967296^s≤nb 4294967296 l)(hN:N≤1099511627776:=by omega)(hs:s+m≤N:=by omega):aP aN 242 #[we (some ⟨g,0,none⟩) N N,we D m cd,up q,no s] w (TK g N q s l es w):=by
 have F:=hy.len
 refine bN Tryz.func242 J (n:=84) J (bq J) (args:= [we (some ⟨g,0,none⟩) N N,we D m cd,up q,no s]) (bG [(0,we (some ⟨g,0,none⟩) N N),(1,we D m cd),(2,up q),(3,no s)] ⟨rfl,rfl,rfl,rfl,AT⟩ (sr (mv 1 J (a7 (sr (mv 1 J (a7 (bO ?_))))))))
 refine d8 (T:=a6×Nat×Nat×List Nat)
  (fun⟨wr,i,c,l'⟩=> [(0,we (some ⟨g,0,none⟩) N N),(1,we D m cd),(2,up q),(3,no s),(8,up c),(9,no i)])
  (fun⟨wr,i,c,l'⟩=>wr)
  (fun⟨wr,i,c,l'⟩=>(Upd g w wr)∧(s+i≤N)∧(c≤4294967296)∧(Bk wr g 65 (l'.map bF))∧(l'.length=N)∧(Wfb 4294967296 l')∧(nb 4294967296 l'+q*nb 4294967296 (es.take i)*4294967296^s=nb 4294967296 l+4294967296^(s+i)*c)∧(Rd wr D m cd es))
  (fun⟨wr,i,c,l'⟩=>N-(s+i))
  (⟨w,0,0,l⟩:a6×Nat×Nat×List Nat) ⟨Upd.refl g w,(by omega),(by decide),hb0,hl0,hwl,by simp [nb],hy⟩ J ⟨rfl,rfl,rfl,rfl,rfl,rfl,AT⟩ ?_
 rintro⟨wr,i,c,l'⟩ ⟨p,hi,_,hb,hl,f,o,h⟩
 refine cR [(0,we (some ⟨g,0,none⟩) N N),(1,we D m cd),(2,up q),(3,no s),(8,up c),(9,no i)] wr J ⟨rfl,rfl,rfl,rfl,rfl,rfl,AT⟩ (aD (aD ?_))
 by_cases ah:s+i<N
 ·by_cases aj:i<m
  ·refine aF (mv 2 J (aR J J J ((s+i:Nat):Int) (cA (a:=s) (b:=i) J J) (mv 1 J (pu (v:= no N) J (aI J J J true (eD (a:=s+i) (b:=N) J J) (mv 3 J (pu (v:= no m) J (aI J J J true (eD (a:=i) (b:=m) J J) (mv 3 J (pu (v:= AI) J (pu (v:= AI) J (a7 (aW J ?_)))))))))))))
   refine aY (aO (aD (bO (sr (mv 2 J (a7 (aD (sr (mv 2 J (pu (v:= no m) J (aI J J J true (eD (a:=i) (b:=m) J J) (a7 (aW J ?_)))))))))))))
   have am:=i6 (b:=4294967296) hwe i
   have hm:q*(es.getD i 0)≤4294967295*4294967295:=jP (by omega) (by omega)
   refine aF (mv 4 J ?_)
   obtain⟨p1,aa,ae,_⟩:=(h).at (i:=i) (by omega)
   refine cD J J J bU bT i J p1 aa (bB J J (dF cT ae) (aR J J J ((q*(es.getD i 0):Nat):Int) (kU (a:=q) (b:=es.getD i 0) J J) (aR J J J ((c+(q*(es.getD i 0)):Nat):Int) (iY (a:=c) (b:=q*(es.getD i 0)) J J) (mv 1 J (a7 (sr (mv 1 J (aR J J J (((c+(q*(es.getD i 0)))%4294967296:Nat):Int) (jJ (a:=c+(q*(es.getD i 0))) (b:=4294967296) J J) (mv 1 J (a7 (sr (mv 1 J (aR J J J (((c+(q*(es.getD i 0)))/4294967296:Nat):Int) (jK (a:=c+(q*(es.getD i 0))) (b:=4294967296) J J) ?_)))))))))))))
   refine mv 1 J (a7 (aD ?_))
   have hd:=i6 (b:=4294967296) f (s+i)
   by_cases I:l'.getD (s+i) 0<(c+(q*(es.getD i 0)))%4294967296
   ·refine aF (mv 3 J (aR J J J ((s+i:Nat):Int) (cA (a:=s) (b:=i) J J) (cD J J J bU bT (s+i) J ⟨g,s+i,none⟩ (eA _ _) (bB J J (iB cT hb (by rw [hl];omega)) (mv 1 J (aI J J J true (eD (a:=l'.getD (s+i) 0) (b:=(c+(q*(es.getD i 0)))%4294967296) J J) (a7 (aW J (sr (mv 3 J (aR J J J ((s+i:Nat):Int) (cA (a:=s) (b:=i) J J) (mv 3 J (aR J J J ((s+i:Nat):Int) (cA (a:=s) (b:=i) J J) ?_)))))))))))))
    refine cD J J J bU bT (s+i) J ⟨g,s+i,none⟩ (eA _ _) (bB J J (iB cT hb (by rw [hl];omega)) (aR J J J (((l'.getD (s+i) 0)+4294967296:Nat):Int) (iY (a:=l'.getD (s+i) 0) (b:=4294967296) J J) (mv 1 J (aR J J J ((((l'.getD (s+i) 0)+4294967296)-((c+(q*(es.getD i 0)))%4294967296):Nat):Int) (zH (a:=(l'.getD (s+i) 0)+4294967296) (b:=(c+(q*(es.getD i 0)))%4294967296) J J) (cD J J J bU bT (s+i) J ⟨g,s+i,none⟩ (eA _ _) ?_)))))
    have X:=hb
    refine dE J J J bT J X (gV (by rw [hl];omega)) J ((l'.set (s+i) (((l'.getD (s+i) 0)+4294967296)-((c+(q*(es.getD i 0)))%4294967296))).map bF) (dX _ _ _) fun v2 W u5 _=>(a7 (aF (mv 1 J (aR J J J ((((c+(q*(es.getD i 0)))/4294967296)+1:Nat):Int) (iY (a:=(c+(q*(es.getD i 0)))/4294967296) (b:=1) J J) (mv 1 J (aX (bQ (aO (aF (mv 1 J (aR J J J ((i+1:Nat):Int) (cA (a:=i) (b:=1) J J) (mv 1 J (aX ?_)))))))))))))
    refine cM (⟨v2,i+1,_,_⟩:a6×Nat×Nat×List Nat) ⟨p.trans u5,(by omega),(by omega),W,(iC (l:=l') (hl)),i0 f _,xC o J J (hZ _ _ _ (by omega)),(Rd.updL h u5 hne)⟩ (show N-(s+(i+1))<N-(s+i) by omega) J ⟨rfl,rfl,rfl,rfl,rfl,rfl,AT⟩
   ·refine aF (mv 3 J (aR J J J ((s+i:Nat):Int) (cA (a:=s) (b:=i) J J) (cD J J J bU bT (s+i) J ⟨g,s+i,none⟩ (eA _ _) (bB J J (iB cT hb (by rw [hl];omega)) (mv 1 J (aI J J J false (eE (a:=l'.getD (s+i) 0) (b:=(c+(q*(es.getD i 0)))%4294967296) J J) (a7 (aQ J (aF (mv 3 J (aR J J J ((s+i:Nat):Int) (cA (a:=s) (b:=i) J J) (mv 3 J (aR J J J ((s+i:Nat):Int) (cA (a:=s) (b:=i) J J) ?_)))))))))))))
    refine cD J J J bU bT (s+i) J ⟨g,s+i,none⟩ (eA _ _) (bB J J (iB cT hb (by rw [hl];omega)) (mv 1 J (aR J J J (((l'.getD (s+i) 0)-((c+(q*(es.getD i 0)))%4294967296):Nat):Int) (zH (a:=l'.getD (s+i) 0) (b:=(c+(q*(es.getD i 0)))%4294967296) J J) (cD J J J bU bT (s+i) J ⟨g,s+i,none⟩ (eA _ _) ?_))))
    have V:=hb
    refine dE J J J bT J V (gV (by rw [hl];omega)) J ((l'.set (s+i) ((l'.getD (s+i) 0)-((c+(q*(es.getD i 0)))%4294967296))).map bF) (dX _ _ _) fun v7 Z L _=>(aX (bQ (aO (aF (mv 1 J (aR J J J ((i+1:Nat):Int) (cA (a:=i) (b:=1) J J) (mv 1 J (aX (cM (⟨v7,i+1,_,_⟩:a6×Nat×Nat×List Nat) ⟨p.trans L,(by omega),(by omega),Z,(iC (l:=l') (hl)),i0 f _,xC o J J (hZ _ _ _ (by omega)),(Rd.updL h L hne)⟩ (show N-(s+(i+1))<N-(s+i) by omega) J ⟨rfl,rfl,rfl,rfl,rfl,rfl,AT⟩)))))))))
  ·by_cases aq:c>0
   ·refine aF (mv 2 J (aR J J J ((s+i:Nat):Int) (cA (a:=s) (b:=i) J J) (mv 1 J (pu (v:= no N) J (aI J J J true (eD (a:=s+i) (b:=N) J J) (mv 3 J (pu (v:= no m) J (aI J J J false (eE (a:=i) (b:=m) J J) (mv 2 J (aI J J J true (eW (a:=c) (b:=0) J J) (pu (v:= AI) J (pu (v:= AI) J (aX ?_)))))))))))))
    refine aO (aW J (aY (aO (aD (bO (sr (mv 2 J (a7 (aD (sr (mv 2 J (pu (v:= no m) J (aI J J J false (eE (a:=i) (b:=m) J J) ?_)))))))))))))
    refine a7 (aQ J (aY (aO (sr (mv 1 J (aR J J J ((c%4294967296:Nat):Int) (jJ (a:=c) (b:=4294967296) J J) (mv 1 J (a7 (sr (mv 1 J (aR J J J ((c/4294967296:Nat):Int) (jK (a:=c) (b:=4294967296) J J) (mv 1 J (aX ?_)))))))))))))
    refine aO (aD ?_)
    have hd:=i6 (b:=4294967296) f (s+i)
    by_cases I:l'.getD (s+i) 0<c%4294967296
    ·refine aF (mv 3 J (aR J J J ((s+i:Nat):Int) (cA (a:=s) (b:=i) J J) (cD J J J bU bT (s+i) J ⟨g,s+i,none⟩ (eA _ _) (bB J J (iB cT hb (by rw [hl];omega)) (mv 1 J (aI J J J true (eD (a:=l'.getD (s+i) 0) (b:=c%4294967296) J J) (a7 (aW J (sr (mv 3 J (aR J J J ((s+i:Nat):Int) (cA (a:=s) (b:=i) J J) (mv 3 J (aR J J J ((s+i:Nat):Int) (cA (a:=s) (b:=i) J J) ?_)))))))))))))
     refine cD J J J bU bT (s+i) J ⟨g,s+i,none⟩ (eA _ _) (bB J J (iB cT hb (by rw [hl];omega)) (aR J J J (((l'.getD (s+i) 0)+4294967296:Nat):Int) (iY (a:=l'.getD (s+i) 0) (b:=4294967296) J J) (mv 1 J (aR J J J ((((l'.getD (s+i) 0)+4294967296)-(c%4294967296):Nat):Int) (zH (a:=(l'.getD (s+i) 0)+4294967296) (b:=c%4294967296) J J) (cD J J J bU bT (s+i) J ⟨g,s+i,none⟩ (eA _ _) ?_)))))
     have E:=hb
     refine dE J J J bT J E (gV (by rw [hl];omega)) J ((l'.set (s+i) (((l'.getD (s+i) 0)+4294967296)-(c%4294967296))).map bF) (dX _ _ _) fun ab U G _=>(a7 (aF (mv 1 J (aR J J J (((c/4294967296)+1:Nat):Int) (iY (a:=c/4294967296) (b:=1) J J) (mv 1 J (aX (bQ (aO (aF (mv 1 J (aR J J J ((i+1:Nat):Int) (cA (a:=i) (b:=1) J J) (mv 1 J (aX ?_)))))))))))))
     refine cM (⟨ab,i+1,_,_⟩:a6×Nat×Nat×List Nat) ⟨p.trans G,(by omega),(by omega),U,(iC (l:=l') (hl)),i0 f _,xC o J (T:=c) (e:=0) (by simp) (FL (by omega)),(Rd.updL h G hne)⟩ (show N-(s+(i+1))<N-(s+i) by omega) J ⟨rfl,rfl,rfl,rfl,rfl,rfl,AT⟩
    ·refine aF (mv 3 J (aR J J J ((s+i:Nat):Int) (cA (a:=s) (b:=i) J J) (cD J J J bU bT (s+i) J ⟨g,s+i,none⟩ (eA _ _) (bB J J (iB cT hb (by rw [hl];omega)) (mv 1 J (aI J J J false (eE (a:=l'.getD (s+i) 0) (b:=c%4294967296) J J) (a7 (aQ J (aF (mv 3 J (aR J J J ((s+i:Nat):Int) (cA (a:=s) (b:=i) J J) (mv 3 J (aR J J J ((s+i:Nat):Int) (cA (a:=s) (b:=i) J J) ?_)))))))))))))
     refine cD J J J bU bT (s+i) J ⟨g,s+i,none⟩ (eA _ _) (bB J J (iB cT hb (by rw [hl];omega)) (mv 1 J (aR J J J (((l'.getD (s+i) 0)-(c%4294967296):Nat):Int) (zH (a:=l'.getD (s+i) 0) (b:=c%4294967296) J J) (cD J J J bU bT (s+i) J ⟨g,s+i,none⟩ (eA _ _) ?_))))
     have r:=hb
     refine dE J J J bT J r (gV (by rw [hl];omega)) J ((l'.set (s+i) ((l'.getD (s+i) 0)-(c%4294967296))).map bF) (dX _ _ _) fun Y M H _=>(aX (bQ (aO (aF (mv 1 J (aR J J J ((i+1:Nat):Int) (cA (a:=i) (b:=1) J J) (mv 1 J (aX (cM (⟨Y,i+1,_,_⟩:a6×Nat×Nat×List Nat) ⟨p.trans H,(by omega),(by omega),M,(iC (l:=l') (hl)),i0 f _,xC o J (T:=c) (e:=0) (by simp) (FL (by omega)),(Rd.updL h H hne)⟩ (show N-(s+(i+1))<N-(s+i) by omega) J ⟨rfl,rfl,rfl,rfl,rfl,rfl,AT⟩)))))))))
   ·refine aF (mv 2 J (aR J J J ((s+i:Nat):Int) (cA (a:=s) (b:=i) J J) (mv 1 J (pu (v:= no N) J (aI J J J true (eD (a:=s+i) (b:=N) J J) (mv 3 J (pu (v:= no m) J (aI J J J false (eE (a:=i) (b:=m) J J) (mv 2 J (aI J J J false (fS (a:=c) (b:=0) J J) (pu (v:= AS) J (pu (v:= AS) J (aX ?_)))))))))))))
    refine aO (aQ J (d4 (cU (cY (cZ (tO [] J AT ?_))))))
    exact⟨rfl,p,l',hb,hl,f,FM f hl F hs hi hq o (cO ⟨by omega,by omega⟩)⟩
 ·refine aF (mv 2 J (aR J J J ((s+i:Nat):Int) (cA (a:=s) (b:=i) J J) (mv 1 J (pu (v:= no N) J (aI J J J false (eE (a:=s+i) (b:=N) J J) (mv 9 J (pu (v:= AS) J (a7 (aQ J (d4 (cU (cY (cZ ?_)))))))))))))
  refine tO [] J AT ?_
  exact⟨rfl,p,l',hb,hl,f,FM f hl F hs hi hq o (cH (by omega))⟩
theorem kF (h:k<xs.length)(b:Nat):nb b (xs.drop k)=xs.getD k 0+b*nb b (xs.drop (k+1)):=by
 rw [List.drop_eq_getElem_cons h,lJ,bK,List.getElem?_eq_getElem h];rfl
section
set_option linter.unusedSectionVars false
variable {xs es:List Nat}{n m s:Nat}(hx:xs.length=n) (he:es.length=m) (hs:s+m≤n) (hwx:Wfb 4294967296 xs) (hwe:Wfb 4294967296 es)
include hx he hs hwx hwe
theorem K7 (hbig:nb 4294967296 xs<4294967296^(s+m+1))(h0:s+m<n→xs.getD (s+m) 0=0):nb 4294967296 (xs.drop (s+m))=nb 4294967296 (es.drop m):=by
 rw [List.drop_of_length_le (l:=es) (by omega),xY]
 by_cases e:s+m<n
 ·have h1:=mO 4294967296 xs (s+m)
  have h2:=kF (xs:=xs) (k:=s+m) (by omega) 4294967296
  rw [h0 e,eJ] at h2
  rw [h2] at h1⊢
  refine Nat.mul_eq_zero.2 (cO (Nat.eq_zero_of_not_pos fun f=>?_))
  rw [cW,←bX] at*
  have h:4294967296^(s+m)*4294967296*1≤4294967296^(s+m)*4294967296*nb 4294967296 (xs.drop (s+m+1)):=fJ _ f
  omega
 ·rw [List.drop_of_length_le (by omega),xY]
theorem W7 (h0:s+m<n)(hp:0<xs.getD (s+m) 0):nb 4294967296 es*4294967296^s≤nb 4294967296 xs:=by
 have h1:=mO 4294967296 xs (s+m)
 have h2:=kF (xs:=xs) (k:=s+m) (by omega) 4294967296
 have e:=oL hwe
 rw [he] at e
 have f:nb 4294967296 es*4294967296^s≤4294967296^m*4294967296^s:=eI _ (Nat.le_of_lt e)
 rw [←dU,Nat.add_comm m s] at f
 have h:4294967296^(s+m)*1≤4294967296^(s+m)*nb 4294967296 (xs.drop (s+m)):=fJ _ (by omega)
 omega
theorem CU (hj:j<m)(h:nb 4294967296 (xs.drop (s+(j+1)))=nb 4294967296 (es.drop (j+1)))(hd:xs.getD (s+j) 0<es.getD j 0):¬nb 4294967296 es*4294967296^s≤nb 4294967296 xs:=by
 have h2:=kF (xs:=xs) (k:=s+j) (by omega) 4294967296
 have o:=kF (xs:=es) (k:=j) (by omega) 4294967296
 rw [iM,h] at h2
 have q:=mO 4294967296 xs (s+j)
 have e:=mO 4294967296 es j
 have r:=tC hwx (s+j)
 have f:4294967296^(s+j)*(nb 4294967296 (xs.drop (s+j))+1)≤4294967296^(s+j)*nb 4294967296 (es.drop j):=fJ _ (by omega)
 have p:4294967296^(s+j)*nb 4294967296 (es.drop j)≤nb 4294967296 es*4294967296^s:=by
  rw [e,dK,dU,bX,cL (4294967296^s)]
  exact Nat.le_add_left _ _
 rw [cI] at f
 omega
theorem CV (hj:j<m)(h:nb 4294967296 (xs.drop (s+(j+1)))=nb 4294967296 (es.drop (j+1)))(hd:xs.getD (s+j) 0>es.getD j 0):nb 4294967296 es*4294967296^s≤nb 4294967296 xs:=by
 have h2:=kF (xs:=xs) (k:=s+j) (by omega) 4294967296
 have p:=kF (xs:=es) (k:=j) (by omega) 4294967296
 rw [iM,h] at h2
 have D:=mO 4294967296 xs (s+j)
 have r:=mO 4294967296 es j
 have E:=tC hwe j
 have f:4294967296^j*(nb 4294967296 (es.drop j)+1)≤4294967296^j*nb 4294967296 (xs.drop (s+j)):=fJ _ (by omega)
 rw [cI] at f
 have o:nb 4294967296 es≤4294967296^j*nb 4294967296 (xs.drop (s+j)):=by omega
 have q:nb 4294967296 es*4294967296^s≤4294967296^j*nb 4294967296 (xs.drop (s+j))*4294967296^s:=eI _ o
 have e:4294967296^j*nb 4294967296 (xs.drop (s+j))*4294967296^s=4294967296^(s+j)*nb 4294967296 (xs.drop (s+j)):=by
  rw [dU,sH,cL (4294967296^j)]
 omega
theorem K8 (h:nb 4294967296 (xs.drop (s+0))=nb 4294967296 (es.drop 0)):nb 4294967296 es*4294967296^s≤nb 4294967296 xs:=by
 have e:=mO 4294967296 xs s
 rw [fC,gP] at h
 rw [e,h,cL]
 exact Nat.le_add_left _ _
theorem K6 (hj:j<m)(h:nb 4294967296 (xs.drop (s+(j+1)))=nb 4294967296 (es.drop (j+1)))(hd:xs.getD (s+j) 0=es.getD j 0):nb 4294967296 (xs.drop (s+j))=nb 4294967296 (es.drop j):=by
 rw [kF (xs:=xs) (k:=s+j) (by omega),kF (xs:=es) (k:=j) (by omega),iM,h,hd]
end
theorem S5 {s:Nat}(hx:Rd w A n cap xs)(hln:n≤1099511627776)(hy:Rd w D m cd es)(hwx:Wfb 4294967296 xs)(hwe:Wfb 4294967296 es)(hs:s+m≤n)(hbig:nb 4294967296 xs<4294967296^(s+m+1)):aP aN 260 #[we A n cap,we D m cd,no s] w (Gv w (Is (.bool (decide (nb 4294967296 es*4294967296^s≤nb 4294967296 xs))))):=by
 have e:=hx.len
 have da:=hx.rv.le
 have f:=hy.len
 refine bN Tryz.func260 J (n:=53) J (bq J) (args:= [we A n cap,we D m cd,no s]) (bG [(0,we A n cap),(1,we D m cd),(2,no s)] ⟨rfl,rfl,rfl,AT⟩ (sr (mv 1 J (a7 (sr (mv 2 J (pu (v:= no m) J (aR J J J ((s+m:Nat):Int) (cA (a:=s) (b:=m) J J) (mv 1 J (a7 (aD (aD ?_))))))))))))
 by_cases Z:s+m<n
 ·by_cases bg:xs.getD (s+m) 0>0
  ·refine aF (mv 2 J (pu (v:= no n) J (aI J J J true (eD (a:=s+m) (b:=n) J J) (mv 3 J ?_))))
   obtain⟨p1,ch,ci,_⟩:=(hx).at (i:=s+m) (by omega)
   refine cD J J J bU bT (s+m) J p1 ch (bB J J (dF cT ci) (aI J J J true (eW (a:=xs.getD (s+m) 0) (b:=0) J J) (pu (v:= AI) J (a7 (aW J (sr (mv 1 J (a7 (aV (bR (aU [AI] J ⟨rfl,AT⟩ ?_)))))))))))
   exact⟨_,rfl,(show Value.bool true=_ by rw [decide_eq_true (W7 e f hs hwx hwe Z bg)]),(Ext.refl w)⟩
  ·have ao:=K7 e f hs hwx hwe hbig (fun _=>by omega)
   refine aF (mv 2 J (pu (v:= no n) J (aI J J J true (eD (a:=s+m) (b:=n) J J) (mv 3 J ?_))))
   obtain⟨p2,cp,cj,_⟩:=(hx).at (i:=s+m) (by omega)
   refine cD J J J bU bT (s+m) J p2 cp (bB J J (dF cT cj) (aI J J J false (fS (a:=xs.getD (s+m) 0) (b:=0) J J) (pu (v:= AS) J (a7 (aQ J (aY (aO (aD (sr (mv 1 J (pu (v:= no m) J (aR J J J (((m:Nat):Int)-1) (eL J) (mv 1 J ?_)))))))))))))
   refine a7 (bO ?_)
   refine d8 (T:=a6×Nat×Int)
    (fun⟨wr,k,ii⟩=> [(0,we A n cap),(1,we D m cd),(2,no s),(8,no ii)])
    (fun⟨wr,k,ii⟩=>wr)
    (fun⟨wr,k,ii⟩=>(Ext w wr)∧(k≤m)∧(ii=(k:Int)-1)∧(nb 4294967296 (xs.drop (s+k))=nb 4294967296 (es.drop k))∧(Rd wr A n cap xs)∧(Rd wr D m cd es))
    (fun⟨wr,k,ii⟩=>k)
    (⟨w,m,_⟩:a6×Nat×Int) ⟨(Ext.refl w),aZ _,rfl,ao,hx,hy⟩ J ⟨rfl,rfl,rfl,rfl,AT⟩ ?_
   rintro⟨wr,k,ii⟩ ⟨G,hk,bw,o,E,H⟩
   refine cR [(0,we A n cap),(1,we D m cd),(2,no s),(8,no ii)] wr J ⟨rfl,rfl,rfl,rfl,AT⟩ (aD (aD ?_))
   by_cases ck:0<k
   ·obtain⟨j,rfl⟩:∃j,k=j+1:=⟨k-1,by omega⟩
    obtain rfl:ii=(j:Int):=by omega
    refine aF (mv 1 J (aI J J J true (gA (a:=j) (b:=0) J J) (a7 (aW J (aY (aO (aD (bO (aD ?_)))))))))
    by_cases cm:xs.getD (s+j) 0≠es.getD j 0
    ·refine bG [(0,we A n cap),(1,we D m cd),(2,no s),(8,no j),(27,no j),(28,AI)] ⟨rfl,rfl,rfl,rfl,rfl,rfl,AT⟩ ?_
     obtain⟨v3,o,e4⟩:∃v,v=wr.drew∧Ext wr v:=⟨_,rfl,aL.drew⟩
     have r:=G.trans e4
     obtain⟨L,ai,aw,_⟩:=((E.ext e4)).at (i:=s+j) (by omega)
     obtain⟨M,ag,ae,_⟩:=((H.ext e4)).at (i:=j) (by omega)
     refine gX bY (w:=v3) [we A n cap,no s,no j,no ((s+j:Nat):Int),.pointer (some L),up ((xs.getD (s+j) 0:Nat):Int),we D m cd,no j,.pointer (some M),up ((es.getD j 0:Nat):Int),AI] [v3] [] [[],[],[],[1,2],[0,3],[4],[],[],[6,7],[8],[5,9]] [[],[],[],[1,2],[0,1,2,3],[0,1,2,3,4],[],[],[6,7],[6,7,8],[0,1,2,3,4,5,6,7,8,9]] [(0,0),(1,0),(2,0),(3,0),(4,0),(5,0),(6,0),(7,0),(8,0),(9,0),(10,0)] J o ?_ ?_
     ·refine bA _ J J J J J (bZ J) (bA _ J J J J J (bZ J) (bA _ J J J J J (bZ J) (bA _ J J J J J (lV J J ((s+j:Nat):Int) (cA (a:=s) (b:=j) J J)) (bA _ J J J J J (fX J J bU bT (s+j) J L ai) (bA _ J J J J J (d7 J (dF cT aw)) (bA _ J J J J J (bZ J) (bA _ J J J J J (bZ J) (bA _ J J J J J (fX J J bU bT j J M ag) (bA _ J J J J J (d7 J (dF cT ae)) (bA _ J J J J J (lD J J true (tR (a:=xs.getD (s+j) 0) (b:=es.getD j 0) J J)) ?_))))))))))
      exact gW
     clear o
     refine gG [(0,we A n cap),(1,we D m cd),(2,no s),(8,no j),(27,no j),(28,AI),(31,we A n cap),(32,no s),(33,no j),(34,no ((s+j:Nat):Int)),(35,.pointer (some L)),(36,up ((xs.getD (s+j) 0:Nat):Int)),(37,we D m cd),(38,no j),(39,.pointer (some M)),(40,up ((es.getD j 0:Nat):Int)),(41,AI)] ⟨rfl,rfl,rfl,rfl,rfl,rfl,rfl,rfl,rfl,rfl,rfl,rfl,rfl,rfl,rfl,rfl,rfl,AT⟩ (aO (aW J (aD ?_)))
     by_cases aj:xs.getD (s+j) 0>es.getD j 0
     ·refine bG [(0,we A n cap),(1,we D m cd),(2,no s),(8,no j),(27,no j),(28,AI),(31,we A n cap),(32,no s),(33,no j),(34,no ((s+j:Nat):Int)),(35,.pointer (some L)),(36,up ((xs.getD (s+j) 0:Nat):Int)),(37,we D m cd),(38,no j),(39,.pointer (some M)),(40,up ((es.getD j 0:Nat):Int)),(41,AI)] ⟨rfl,rfl,rfl,rfl,rfl,rfl,rfl,rfl,rfl,rfl,rfl,rfl,rfl,rfl,rfl,rfl,rfl,AT⟩ ?_
      obtain⟨v7,o,e8⟩:∃v,v=v3.drew∧Ext v3 v:=⟨_,rfl,aL.drew⟩
      have F:=r.trans e8
      refine gX bY (w:=v7) [we A n cap,no s,no j,no ((s+j:Nat):Int),.pointer (some L),up ((xs.getD (s+j) 0:Nat):Int),we D m cd,no j,.pointer (some M),up ((es.getD j 0:Nat):Int),AI,AI] [v7] [] [[],[],[],[1,2],[0,3],[4],[],[],[6,7],[8],[5,9],[10]] [[],[],[],[1,2],[0,1,2,3],[0,1,2,3,4],[],[],[6,7],[6,7,8],[0,1,2,3,4,5,6,7,8,9],[0,1,2,3,4,5,6,7,8,9,10]] [(0,0),(1,0),(2,0),(3,0),(4,0),(5,0),(6,0),(7,0),(8,0),(9,0),(10,0),(11,0)] J o ?_ ?_
      ·refine bA _ J J J J J (bZ J) (bA _ J J J J J (bZ J) (bA _ J J J J J (bZ J) (bA _ J J J J J (lV J J ((s+j:Nat):Int) (cA (a:=s) (b:=j) J J)) (bA _ J J J J J (fX J J bU bT (s+j) J L ai) (bA _ J J J J J (d7 J (dF cT (e8.cell aw))) (bA _ J J J J J (bZ J) (bA _ J J J J J (bZ J) (bA _ J J J J J (fX J J bU bT j J M ag) (bA _ J J J J J (d7 J (dF cT (e8.cell ae))) (bA _ J J J J J (lD J J true (eW (a:=xs.getD (s+j) 0) (b:=es.getD j 0) J J)) (bA _ J J J J J (lE J) ?_)))))))))))
       exact gW
      clear o
      refine gG [(0,we A n cap),(1,we D m cd),(2,no s),(8,no j),(27,no j),(28,AI),(31,we A n cap),(32,no s),(33,no j),(34,no ((s+j:Nat):Int)),(35,.pointer (some L)),(36,up ((xs.getD (s+j) 0:Nat):Int)),(37,we D m cd),(38,no j),(39,.pointer (some M)),(40,up ((es.getD j 0:Nat):Int)),(41,AI),(42,we A n cap),(43,no s),(44,no j),(45,no ((s+j:Nat):Int)),(46,.pointer (some L)),(47,up ((xs.getD (s+j) 0:Nat):Int)),(48,we D m cd),(49,no j),(50,.pointer (some M)),(51,up ((es.getD j 0:Nat):Int)),(52,AI),(6,AI)] ⟨rfl,rfl,rfl,rfl,rfl,rfl,rfl,rfl,rfl,rfl,rfl,rfl,rfl,rfl,rfl,rfl,rfl,rfl,rfl,rfl,rfl,rfl,rfl,rfl,rfl,rfl,rfl,rfl,rfl,AT⟩ (aO (aV (fK (bR (m5 (fK (bR (aU [AI] J ⟨rfl,AT⟩ ?_))))))))
      exact⟨_,rfl,(show Value.bool true=_ by rw [decide_eq_true (CV e f hs hwx hwe (by omega) o aj)]),F⟩
     ·refine bG [(0,we A n cap),(1,we D m cd),(2,no s),(8,no j),(27,no j),(28,AI),(31,we A n cap),(32,no s),(33,no j),(34,no ((s+j:Nat):Int)),(35,.pointer (some L)),(36,up ((xs.getD (s+j) 0:Nat):Int)),(37,we D m cd),(38,no j),(39,.pointer (some M)),(40,up ((es.getD j 0:Nat):Int)),(41,AI)] ⟨rfl,rfl,rfl,rfl,rfl,rfl,rfl,rfl,rfl,rfl,rfl,rfl,rfl,rfl,rfl,rfl,rfl,AT⟩ ?_
      obtain⟨v9,o,ar⟩:∃v,v=v3.drew∧Ext v3 v:=⟨_,rfl,aL.drew⟩
      have F:=r.trans ar
      refine gX bY (w:=v9) [we A n cap,no s,no j,no ((s+j:Nat):Int),.pointer (some L),up ((xs.getD (s+j) 0:Nat):Int),we D m cd,no j,.pointer (some M),up ((es.getD j 0:Nat):Int),F0,F0] [v9] [] [[],[],[],[1,2],[0,3],[4],[],[],[6,7],[8],[5,9],[10]] [[],[],[],[1,2],[0,1,2,3],[0,1,2,3,4],[],[],[6,7],[6,7,8],[0,1,2,3,4,5,6,7,8,9],[0,1,2,3,4,5,6,7,8,9,10]] [(0,0),(1,0),(2,0),(3,0),(4,0),(5,0),(6,0),(7,0),(8,0),(9,0),(10,0),(11,0)] J o ?_ ?_
      ·refine bA _ J J J J J (bZ J) (bA _ J J J J J (bZ J) (bA _ J J J J J (bZ J) (bA _ J J J J J (lV J J ((s+j:Nat):Int) (cA (a:=s) (b:=j) J J)) (bA _ J J J J J (fX J J bU bT (s+j) J L ai) (bA _ J J J J J (d7 J (dF cT (ar.cell aw))) (bA _ J J J J J (bZ J) (bA _ J J J J J (bZ J) (bA _ J J J J J (fX J J bU bT j J M ag) (bA _ J J J J J (d7 J (dF cT (ar.cell ae))) (bA _ J J J J J (lD J J false (fS (a:=xs.getD (s+j) 0) (b:=es.getD j 0) J J)) (bA _ J J J J J (lE J) ?_)))))))))))
       exact gW
      clear o
      refine gG [(0,we A n cap),(1,we D m cd),(2,no s),(8,no j),(27,no j),(28,AI),(31,we A n cap),(32,no s),(33,no j),(34,no ((s+j:Nat):Int)),(35,.pointer (some L)),(36,up ((xs.getD (s+j) 0:Nat):Int)),(37,we D m cd),(38,no j),(39,.pointer (some M)),(40,up ((es.getD j 0:Nat):Int)),(41,AI),(42,we A n cap),(43,no s),(44,no j),(45,no ((s+j:Nat):Int)),(46,.pointer (some L)),(47,up ((xs.getD (s+j) 0:Nat):Int)),(48,we D m cd),(49,no j),(50,.pointer (some M)),(51,up ((es.getD j 0:Nat):Int)),(52,AS),(6,AS)] ⟨rfl,rfl,rfl,rfl,rfl,rfl,rfl,rfl,rfl,rfl,rfl,rfl,rfl,rfl,rfl,rfl,rfl,rfl,rfl,rfl,rfl,rfl,rfl,rfl,rfl,rfl,rfl,rfl,rfl,AT⟩ (aO (aV (fK (bR (m5 (fK (bR (aU [F0] J ⟨rfl,AT⟩ ?_))))))))
      exact⟨_,rfl,(show Value.bool false=_ by rw [decide_eq_false (CU e f hs hwx hwe (by omega) o (by omega))]),F⟩
    ·refine bG [(0,we A n cap),(1,we D m cd),(2,no s),(8,no j),(27,no j),(28,AI)] ⟨rfl,rfl,rfl,rfl,rfl,rfl,AT⟩ ?_
     obtain⟨ab,o,W⟩:∃v,v=wr.drew∧Ext wr v:=⟨_,rfl,aL.drew⟩
     have r:=G.trans W
     obtain⟨ah,ba,bo,_⟩:=((E.ext W)).at (i:=s+j) (by omega)
     obtain⟨ak,bp,bj,_⟩:=((H.ext W)).at (i:=j) (by omega)
     refine gX bY (w:=ab) [we A n cap,no s,no j,no ((s+j:Nat):Int),.pointer (some ah),up ((xs.getD (s+j) 0:Nat):Int),we D m cd,no j,.pointer (some ak),up ((es.getD j 0:Nat):Int),F0] [ab] [] [[],[],[],[1,2],[0,3],[4],[],[],[6,7],[8],[5,9]] [[],[],[],[1,2],[0,1,2,3],[0,1,2,3,4],[],[],[6,7],[6,7,8],[0,1,2,3,4,5,6,7,8,9]] [(0,0),(1,0),(2,0),(3,0),(4,0),(5,0),(6,0),(7,0),(8,0),(9,0),(10,0)] J o ?_ ?_
     ·refine bA _ J J J J J (bZ J) (bA _ J J J J J (bZ J) (bA _ J J J J J (bZ J) (bA _ J J J J J (lV J J ((s+j:Nat):Int) (cA (a:=s) (b:=j) J J)) (bA _ J J J J J (fX J J bU bT (s+j) J ah ba) (bA _ J J J J J (d7 J (dF cT bo)) (bA _ J J J J J (bZ J) (bA _ J J J J J (bZ J) (bA _ J J J J J (fX J J bU bT j J ak bp) (bA _ J J J J J (d7 J (dF cT bj)) (bA _ J J J J J (lD J J false (vU (a:=xs.getD (s+j) 0) (b:=es.getD j 0) J J)) ?_))))))))))
      exact gW
     clear o
     refine gG [(0,we A n cap),(1,we D m cd),(2,no s),(8,no j),(27,no j),(28,AI),(31,we A n cap),(32,no s),(33,no j),(34,no ((s+j:Nat):Int)),(35,.pointer (some ah)),(36,up ((xs.getD (s+j) 0:Nat):Int)),(37,we D m cd),(38,no j),(39,.pointer (some ak)),(40,up ((es.getD j 0:Nat):Int)),(41,AS)] ⟨rfl,rfl,rfl,rfl,rfl,rfl,rfl,rfl,rfl,rfl,rfl,rfl,rfl,rfl,rfl,rfl,rfl,AT⟩ (aO (aQ J (aY (bQ (aO (aF (mv 1 J (aR J J J (((j:Nat):Int)-1) (eL J) (mv 1 J (aX (cM (⟨ab,j,_⟩:a6×Nat×Int) ⟨r,(by omega),rfl,K6 e f hs hwx hwe (by omega) o (by omega),(E.ext W),(H.ext W)⟩ (show j<j+1 by omega) J ⟨rfl,rfl,rfl,rfl,AT⟩)))))))))))
   ·obtain rfl:k=0:=by omega
    refine aF (mv 1 J (aI J J J false (kQ) (a7 (aQ J (d4 (cU (cY (cZ (aO (sr (mv 1 J (a7 (aV ?_)))))))))))))
    refine aU [AI] J ⟨rfl,AT⟩ ?_
    exact⟨_,rfl,(show Value.bool true=_ by rw [decide_eq_true (K8 e f hs hwx hwe o)]),G⟩
 ·have ao:=K7 e f hs hwx hwe hbig (fun h=>absurd h Z)
  refine aF (mv 2 J (pu (v:= no n) J (aI J J J false (eE (a:=s+m) (b:=n) J J) (mv 6 J (pu (v:= AS) J (a7 (aQ J (aY (aO (aD (sr (mv 1 J (pu (v:= no m) J ?_)))))))))))))
  refine aR J J J (((m:Nat):Int)-1) (eL J) (mv 1 J (a7 (bO ?_)))
  refine d8 (T:=a6×Nat×Int)
   (fun⟨wr,k,ii⟩=> [(0,we A n cap),(1,we D m cd),(2,no s),(8,no ii)])
   (fun⟨wr,k,ii⟩=>wr)
   (fun⟨wr,k,ii⟩=>(Ext w wr)∧(k≤m)∧(ii=(k:Int)-1)∧(nb 4294967296 (xs.drop (s+k))=nb 4294967296 (es.drop k))∧(Rd wr A n cap xs)∧(Rd wr D m cd es))
   (fun⟨wr,k,ii⟩=>k)
   (⟨w,m,_⟩:a6×Nat×Int) ⟨(Ext.refl w),aZ _,rfl,ao,hx,hy⟩ J ⟨rfl,rfl,rfl,rfl,AT⟩ ?_
  rintro⟨wr,k,ii⟩ ⟨G,hk,bw,o,E,H⟩
  refine cR [(0,we A n cap),(1,we D m cd),(2,no s),(8,no ii)] wr J ⟨rfl,rfl,rfl,rfl,AT⟩ (aD (aD ?_))
  by_cases ck:0<k
  ·obtain⟨j,rfl⟩:∃j,k=j+1:=⟨k-1,by omega⟩
   obtain rfl:ii=(j:Int):=by omega
   refine aF (mv 1 J (aI J J J true (gA (a:=j) (b:=0) J J) (a7 (aW J (aY (aO (aD (bO (aD ?_)))))))))
   by_cases cm:xs.getD (s+j) 0≠es.getD j 0
   ·refine bG [(0,we A n cap),(1,we D m cd),(2,no s),(8,no j),(27,no j),(28,AI)] ⟨rfl,rfl,rfl,rfl,rfl,rfl,AT⟩ ?_
    obtain⟨I,o,aa⟩:∃v,v=wr.drew∧Ext wr v:=⟨_,rfl,aL.drew⟩
    have r:=G.trans aa
    obtain⟨p,U,Y,_⟩:=((E.ext aa)).at (i:=s+j) (by omega)
    obtain⟨q,V,X,_⟩:=((H.ext aa)).at (i:=j) (by omega)
    refine gX bY (w:=I) [we A n cap,no s,no j,no ((s+j:Nat):Int),.pointer (some p),up ((xs.getD (s+j) 0:Nat):Int),we D m cd,no j,.pointer (some q),up ((es.getD j 0:Nat):Int),AI] [I] [] [[],[],[],[1,2],[0,3],[4],[],[],[6,7],[8],[5,9]] [[],[],[],[1,2],[0,1,2,3],[0,1,2,3,4],[],[],[6,7],[6,7,8],[0,1,2,3,4,5,6,7,8,9]] [(0,0),(1,0),(2,0),(3,0),(4,0),(5,0),(6,0),(7,0),(8,0),(9,0),(10,0)] J o ?_ ?_
    ·refine bA _ J J J J J (bZ J) (bA _ J J J J J (bZ J) (bA _ J J J J J (bZ J) (bA _ J J J J J (lV J J ((s+j:Nat):Int) (cA (a:=s) (b:=j) J J)) (bA _ J J J J J (fX J J bU bT (s+j) J p U) (bA _ J J J J J (d7 J (dF cT Y)) (bA _ J J J J J (bZ J) (bA _ J J J J J (bZ J) (bA _ J J J J J (fX J J bU bT j J q V) (bA _ J J J J J (d7 J (dF cT X)) (bA _ J J J J J (lD J J true (tR (a:=xs.getD (s+j) 0) (b:=es.getD j 0) J J)) ?_))))))))))
     exact gW
    clear o
    refine gG [(0,we A n cap),(1,we D m cd),(2,no s),(8,no j),(27,no j),(28,AI),(31,we A n cap),(32,no s),(33,no j),(34,no ((s+j:Nat):Int)),(35,.pointer (some p)),(36,up ((xs.getD (s+j) 0:Nat):Int)),(37,we D m cd),(38,no j),(39,.pointer (some q)),(40,up ((es.getD j 0:Nat):Int)),(41,AI)] ⟨rfl,rfl,rfl,rfl,rfl,rfl,rfl,rfl,rfl,rfl,rfl,rfl,rfl,rfl,rfl,rfl,rfl,AT⟩ (aO (aW J (aD ?_)))
    by_cases aj:xs.getD (s+j) 0>es.getD j 0
    ·refine bG [(0,we A n cap),(1,we D m cd),(2,no s),(8,no j),(27,no j),(28,AI),(31,we A n cap),(32,no s),(33,no j),(34,no ((s+j:Nat):Int)),(35,.pointer (some p)),(36,up ((xs.getD (s+j) 0:Nat):Int)),(37,we D m cd),(38,no j),(39,.pointer (some q)),(40,up ((es.getD j 0:Nat):Int)),(41,AI)] ⟨rfl,rfl,rfl,rfl,rfl,rfl,rfl,rfl,rfl,rfl,rfl,rfl,rfl,rfl,rfl,rfl,rfl,AT⟩ ?_
     obtain⟨bf,o,au⟩:∃v,v=I.drew∧Ext I v:=⟨_,rfl,aL.drew⟩
     have F:=r.trans au
     refine gX bY (w:=bf) [we A n cap,no s,no j,no ((s+j:Nat):Int),.pointer (some p),up ((xs.getD (s+j) 0:Nat):Int),we D m cd,no j,.pointer (some q),up ((es.getD j 0:Nat):Int),AI,AI] [bf] [] [[],[],[],[1,2],[0,3],[4],[],[],[6,7],[8],[5,9],[10]] [[],[],[],[1,2],[0,1,2,3],[0,1,2,3,4],[],[],[6,7],[6,7,8],[0,1,2,3,4,5,6,7,8,9],[0,1,2,3,4,5,6,7,8,9,10]] [(0,0),(1,0),(2,0),(3,0),(4,0),(5,0),(6,0),(7,0),(8,0),(9,0),(10,0),(11,0)] J o ?_ ?_
     ·refine bA _ J J J J J (bZ J) (bA _ J J J J J (bZ J) (bA _ J J J J J (bZ J) (bA _ J J J J J (lV J J ((s+j:Nat):Int) (cA (a:=s) (b:=j) J J)) (bA _ J J J J J (fX J J bU bT (s+j) J p U) (bA _ J J J J J (d7 J (dF cT (au.cell Y))) (bA _ J J J J J (bZ J) (bA _ J J J J J (bZ J) (bA _ J J J J J (fX J J bU bT j J q V) (bA _ J J J J J (d7 J (dF cT (au.cell X))) (bA _ J J J J J (lD J J true (eW (a:=xs.getD (s+j) 0) (b:=es.getD j 0) J J)) (bA _ J J J J J (lE J) ?_)))))))))))
      exact gW
     clear o
     refine gG [(0,we A n cap),(1,we D m cd),(2,no s),(8,no j),(27,no j),(28,AI),(31,we A n cap),(32,no s),(33,no j),(34,no ((s+j:Nat):Int)),(35,.pointer (some p)),(36,up ((xs.getD (s+j) 0:Nat):Int)),(37,we D m cd),(38,no j),(39,.pointer (some q)),(40,up ((es.getD j 0:Nat):Int)),(41,AI),(42,we A n cap),(43,no s),(44,no j),(45,no ((s+j:Nat):Int)),(46,.pointer (some p)),(47,up ((xs.getD (s+j) 0:Nat):Int)),(48,we D m cd),(49,no j),(50,.pointer (some q)),(51,up ((es.getD j 0:Nat):Int)),(52,AI),(6,AI)] ⟨rfl,rfl,rfl,rfl,rfl,rfl,rfl,rfl,rfl,rfl,rfl,rfl,rfl,rfl,rfl,rfl,rfl,rfl,rfl,rfl,rfl,rfl,rfl,rfl,rfl,rfl,rfl,rfl,rfl,AT⟩ (aO (aV (fK (bR (m5 (fK (bR (aU [AI] J ⟨rfl,AT⟩ ?_))))))))
     exact⟨_,rfl,(show Value.bool true=_ by rw [decide_eq_true (CV e f hs hwx hwe (by omega) o aj)]),F⟩
    ·refine bG [(0,we A n cap),(1,we D m cd),(2,no s),(8,no j),(27,no j),(28,AI),(31,we A n cap),(32,no s),(33,no j),(34,no ((s+j:Nat):Int)),(35,.pointer (some p)),(36,up ((xs.getD (s+j) 0:Nat):Int)),(37,we D m cd),(38,no j),(39,.pointer (some q)),(40,up ((es.getD j 0:Nat):Int)),(41,AI)] ⟨rfl,rfl,rfl,rfl,rfl,rfl,rfl,rfl,rfl,rfl,rfl,rfl,rfl,rfl,rfl,rfl,rfl,AT⟩ ?_
     obtain⟨bd,o,aq⟩:∃v,v=I.drew∧Ext I v:=⟨_,rfl,aL.drew⟩
     have F:=r.trans aq
     refine gX bY (w:=bd) [we A n cap,no s,no j,no ((s+j:Nat):Int),.pointer (some p),up ((xs.getD (s+j) 0:Nat):Int),we D m cd,no j,.pointer (some q),up ((es.getD j 0:Nat):Int),F0,F0] [bd] [] [[],[],[],[1,2],[0,3],[4],[],[],[6,7],[8],[5,9],[10]] [[],[],[],[1,2],[0,1,2,3],[0,1,2,3,4],[],[],[6,7],[6,7,8],[0,1,2,3,4,5,6,7,8,9],[0,1,2,3,4,5,6,7,8,9,10]] [(0,0),(1,0),(2,0),(3,0),(4,0),(5,0),(6,0),(7,0),(8,0),(9,0),(10,0),(11,0)] J o ?_ ?_
     ·refine bA _ J J J J J (bZ J) (bA _ J J J J J (bZ J) (bA _ J J J J J (bZ J) (bA _ J J J J J (lV J J ((s+j:Nat):Int) (cA (a:=s) (b:=j) J J)) (bA _ J J J J J (fX J J bU bT (s+j) J p U) (bA _ J J J J J (d7 J (dF cT (aq.cell Y))) (bA _ J J J J J (bZ J) (bA _ J J J J J (bZ J) (bA _ J J J J J (fX J J bU bT j J q V) (bA _ J J J J J (d7 J (dF cT (aq.cell X))) (bA _ J J J J J (lD J J false (fS (a:=xs.getD (s+j) 0) (b:=es.getD j 0) J J)) (bA _ J J J J J (lE J) ?_)))))))))))
      exact gW
     clear o
     refine gG [(0,we A n cap),(1,we D m cd),(2,no s),(8,no j),(27,no j),(28,AI),(31,we A n cap),(32,no s),(33,no j),(34,no ((s+j:Nat):Int)),(35,.pointer (some p)),(36,up ((xs.getD (s+j) 0:Nat):Int)),(37,we D m cd),(38,no j),(39,.pointer (some q)),(40,up ((es.getD j 0:Nat):Int)),(41,AI),(42,we A n cap),(43,no s),(44,no j),(45,no ((s+j:Nat):Int)),(46,.pointer (some p)),(47,up ((xs.getD (s+j) 0:Nat):Int)),(48,we D m cd),(49,no j),(50,.pointer (some q)),(51,up ((es.getD j 0:Nat):Int)),(52,AS),(6,AS)] ⟨rfl,rfl,rfl,rfl,rfl,rfl,rfl,rfl,rfl,rfl,rfl,rfl,rfl,rfl,rfl,rfl,rfl,rfl,rfl,rfl,rfl,rfl,rfl,rfl,rfl,rfl,rfl,rfl,rfl,AT⟩ (aO (aV (fK (bR (m5 (fK (bR (aU [F0] J ⟨rfl,AT⟩ ?_))))))))
     exact⟨_,rfl,(show Value.bool false=_ by rw [decide_eq_false (CU e f hs hwx hwe (by omega) o (by omega))]),F⟩
   ·refine bG [(0,we A n cap),(1,we D m cd),(2,no s),(8,no j),(27,no j),(28,AI)] ⟨rfl,rfl,rfl,rfl,rfl,rfl,AT⟩ ?_
    obtain⟨ap,o,fL⟩:∃v,v=wr.drew∧Ext wr v:=⟨_,rfl,aL.drew⟩
    have r:=G.trans fL
    obtain⟨am,bh,bu,_⟩:=((E.ext fL)).at (i:=s+j) (by omega)
    obtain⟨av,bm,bi,_⟩:=((H.ext fL)).at (i:=j) (by omega)
    refine gX bY (w:=ap) [we A n cap,no s,no j,no ((s+j:Nat):Int),.pointer (some am),up ((xs.getD (s+j) 0:Nat):Int),we D m cd,no j,.pointer (some av),up ((es.getD j 0:Nat):Int),F0] [ap] [] [[],[],[],[1,2],[0,3],[4],[],[],[6,7],[8],[5,9]] [[],[],[],[1,2],[0,1,2,3],[0,1,2,3,4],[],[],[6,7],[6,7,8],[0,1,2,3,4,5,6,7,8,9]] [(0,0),(1,0),(2,0),(3,0),(4,0),(5,0),(6,0),(7,0),(8,0),(9,0),(10,0)] J o ?_ ?_
    ·refine bA _ J J J J J (bZ J) (bA _ J J J J J (bZ J) (bA _ J J J J J (bZ J) (bA _ J J J J J (lV J J ((s+j:Nat):Int) (cA (a:=s) (b:=j) J J)) (bA _ J J J J J (fX J J bU bT (s+j) J am bh) (bA _ J J J J J (d7 J (dF cT bu)) (bA _ J J J J J (bZ J) (bA _ J J J J J (bZ J) (bA _ J J J J J (fX J J bU bT j J av bm) (bA _ J J J J J (d7 J (dF cT bi)) (bA _ J J J J J (lD J J false (vU (a:=xs.getD (s+j) 0) (b:=es.getD j 0) J J)) ?_))))))))))
     exact gW
    clear o
    refine gG [(0,we A n cap),(1,we D m cd),(2,no s),(8,no j),(27,no j),(28,AI),(31,we A n cap),(32,no s),(33,no j),(34,no ((s+j:Nat):Int)),(35,.pointer (some am)),(36,up ((xs.getD (s+j) 0:Nat):Int)),(37,we D m cd),(38,no j),(39,.pointer (some av)),(40,up ((es.getD j 0:Nat):Int)),(41,AS)] ⟨rfl,rfl,rfl,rfl,rfl,rfl,rfl,rfl,rfl,rfl,rfl,rfl,rfl,rfl,rfl,rfl,rfl,AT⟩ (aO (aQ J (aY (bQ (aO (aF (mv 1 J (aR J J J (((j:Nat):Int)-1) (eL J) (mv 1 J (aX (cM (⟨ap,j,_⟩:a6×Nat×Int) ⟨r,(by omega),rfl,K6 e f hs hwx hwe (by omega) o (by omega),(E.ext fL),(H.ext fL)⟩ (show j<j+1 by omega) J ⟨rfl,rfl,rfl,rfl,AT⟩)))))))))))
  ·obtain rfl:k=0:=by omega
   refine aF (mv 1 J (aI J J J false (kQ) (a7 (aQ J (d4 (cU (cY (cZ (aO (sr (mv 1 J (a7 (aV ?_)))))))))))))
   refine aU [AI] J ⟨rfl,AT⟩ ?_
   exact⟨_,rfl,(show Value.bool true=_ by rw [decide_eq_true (K8 e f hs hwx hwe o)]),G⟩
theorem J3 (hi:i<l.length):l.getD i 0*b^i≤nb b l:=by
 rw [mO b l i,kF hi,cI,cL (l.getD i 0)]
 omega
theorem Z1 {x y r:Nat}(h:q*y+r=x)(hr:r<y):q=x/y∧r=x%y:=by
 subst h
 rw [cL]
 constructor
 ·rw [Nat.mul_add_div (by omega),i8 hr];rfl
 ·rw [Nat.mul_add_mod,gN hr]
theorem CI (hb:0<b)(hm:0<m)(hl:es.length=m)(ht:es.getD (m-1) 0≠0):b^(m-1)≤nb b es:=by
 refine a8 ?_ (J3 (b:=b) (l:=es) (i:=m-1) (by omega))
 exact Nat.le_mul_of_pos_left _ (by omega)
theorem UD (hb:0<b)(hm:0<m)(hl:es.length=m)(ht:es.getD (m-1) 0≠0):0<nb b es:=dJ (gB hb) (CI hb hm hl ht)
theorem Q8 (hw:Wfb 4294967296 xs)(hn:xs.length=n)(hl:es.length=m)(h:n<m)(ht:es.getD (m-1) 0≠0):nb 4294967296 xs<nb 4294967296 es:=by
 have h1:=oL hw
 rw [hn] at h1
 have h2:=CI (b:=4294967296) (by decide) (by omega) hl ht
 have e:4294967296^n≤4294967296^(m-1):=Nat.pow_le_pow_right (by decide) (by omega)
 omega
theorem xO {s:Nat}{b:Bool}(hx:Rd w A n cap xs)(hy:Rd w D m cd es)(hwx:Wfb 4294967296 xs)(hwe:Wfb 4294967296 es)(hbig:nb 4294967296 xs<4294967296^(s+m+1))(hb:decide (nb 4294967296 es*4294967296^s≤nb 4294967296 xs)=b)(hln:n≤1099511627776:=by omega)(hs:s+m≤n:=by omega):aP aN 260 #[we A n cap,we D m cd,no (s:Int)] w (Gv w (Is (.bool b))):=hb▸S5 hx hln hy hwx hwe hs hbig
theorem UE {i':Nat}(h:i+1=i')(hi:i'<l.length):(l.getD i 0+l.getD i' 0*b)*b^i≤nb b l:=by
 subst h
 rw [mO b l i,kF (k:=i) (by omega),kF (k:=i+1) hi,cL,cL (l.getD (i+1) 0)]
 refine a8 (fJ _ ?_) (Nat.le_add_left _ _)
 rw [cI]
 omega
theorem YG (hw:Wfb 4294967296 l)(hk:k≤l.length)(h0:0<k)(hv:nb 4294967296 (l.take k)=nb 4294967296 l):nb 4294967296 l<(l.getD (k-1) 0+1)*4294967296^(k-1):=by
 obtain⟨j,rfl⟩:∃j,k=j+1:=⟨k-1,by omega⟩
 rw [←hv,hZ 4294967296 l j (by omega),mC,dK,Nat.one_mul,cL (l.getD j 0)]
 have:=tC hw j
 omega
theorem L6 {D hd t:Nat}(hD:D<hd*4294967296^(k-1))(hk:0<k)(ht:t*4294967296^(j+k-1)≤R):t/hd*D*4294967296^j≤R:=by
 have h1:t/hd*D≤t/hd*(hd*4294967296^(k-1)):=fJ _ (Nat.le_of_lt hD)
 have h2:t/hd*(hd*4294967296^(k-1))≤t*4294967296^(k-1):=by
  rw [←bX]
  exact eI _ (Nat.div_mul_le_self t hd)
 have e:=eI (4294967296^j) (a8 h1 h2)
 rw [bX t,←dU,show k-1+j=j+k-1 by omega] at e
 exact a8 e ht
theorem vR {D:Nat}(h:n*D*4294967296^j≤R)(hR:R<D*4294967296^(j+1)):n<4294967296:=by
 refine mU fun hn=>?_
 have h1:4294967296*D*4294967296^j≤n*D*4294967296^j:=eI _ (eI _ hn)
 have h2:4294967296*D*4294967296^j=D*4294967296^(j+1):=by rw [cW];grind
 omega
structure DO (Z D k:Nat)(lq lr:List Nat):Prop where
 wq:Wfb 4294967296 lq
 wr:Wfb 4294967296 lr
 v:nb 4294967296 lq*D+nb 4294967296 lr=Z
 lt:nb 4294967296 lr<D*4294967296^k
 z:∀i,i<k→lq.getD i 0=0
structure DI (Z D j:Nat)(lq lr:List Nat):Prop where
 wq:Wfb 4294967296 lq
 wr:Wfb 4294967296 lr
 v:nb 4294967296 lq*D+nb 4294967296 lr=Z
 lt:lq.getD j 0*(D*4294967296^j)+nb 4294967296 lr<D*4294967296^(j+1)
 z:∀i,i<j→lq.getD i 0=0
theorem W8 (k i:Nat):(cJ k 0).getD i 0=0:=by
 rw [bK]
 by_cases h:i<k
 ·rw [List.getElem?_replicate_of_lt h];rfl
 ·rw [List.getElem?_eq_none (by rw [List.length_replicate];omega)];rfl
theorem DO.start (hw:Wfb 4294967296 lr)(hr:nb 4294967296 lr=X*f)(hd:nb 4294967296 ld=Y*f)(hf:1≤f)(hX:X<4294967296^n)(hY:4294967296^(m-1)≤Y)(hm:0<m)(hmn:m≤n):DO (X*f) (nb 4294967296 ld) (n-m+1) (cJ (n-m+1) 0) lr:=by
 refine⟨oR _,hw,by rw [vA,hr];omega,?_,fun i _=>W8 _ i⟩
 rw [hr,hd]
 have h1:4294967296^n=4294967296^(m-1)*4294967296^(n-m+1):=by rw [←dU];congr 1;omega
 have h2:4294967296^(m-1)*4294967296^(n-m+1)≤Y*4294967296^(n-m+1):=eI _ hY
 rw [sH]
 exact Nat.mul_lt_mul_of_pos_right (by omega) hf
theorem DO.enter {D:Nat}(h:DO Z D (j+1) lq lr):DI Z D j lq lr:=⟨h.wq,h.wr,h.v,by rw [h.z j (by omega),Nat.zero_mul,eJ];exact h.lt,fun i hi=>h.z i (by omega)⟩
theorem DI.leave {D:Nat}(h:DI Z D j lq lr)(hn:¬D*4294967296^j≤nb 4294967296 lr):DO Z D j lq lr:=⟨h.wq,h.wr,h.v,by omega,h.z⟩
theorem DI.sum {D:Nat}(h:DI Z D j lq lr)(hv:nb 4294967296 l'+n*D*4294967296^j=nb 4294967296 lr):(lq.getD j 0+n)*(D*4294967296^j)+nb 4294967296 l'<D*4294967296^(j+1):=by
 have h1:=h.lt
 rw [dK,←bX n]
 omega
theorem DI.digit {D:Nat}(h:DI Z D j lq lr)(hv:nb 4294967296 l'+n*D*4294967296^j=nb 4294967296 lr):lq.getD j 0+n<4294967296:=by
 have h1:=h.sum hv
 refine vR (R:=(lq.getD j 0+n)*D*4294967296^j) (aZ _) ?_
 rw [bX];omega
theorem DI.step {D:Nat}(h:DI Z D j lq lr)(hj:j<lq.length)(hw:Wfb 4294967296 l')(hv:nb 4294967296 l'+n*D*4294967296^j=nb 4294967296 lr):DI Z D j (lq.set j (lq.getD j 0+n)) l':=by
 refine⟨i0 h.wq _ (hx:=(h.digit hv)),hw,?_,?_,fun i hi=>by rw [getD_set_ne (by omega),h.z i hi]⟩
 ·have h1:=vB 4294967296 hj (lq.getD j 0+n)
  rw [cI] at h1
  have h2:nb 4294967296 (lq.set j (lq.getD j 0+n))=nb 4294967296 lq+4294967296^j*n:=by omega
  have f:=h.v
  have e:4294967296^j*n*D=n*D*4294967296^j:=by grind
  rw [h2,dK,e]
  omega
 ·rw [tL hj];exact h.sum hv
theorem yP {D:Nat}(hn:1≤n)(hD:0<D)(hv:nb 4294967296 l'+n*D*4294967296^j=nb 4294967296 lr):nb 4294967296 l'<nb 4294967296 lr:=by
 have:0<n*D*4294967296^j:=iL (iL hn hD) (gB (by decide))
 omega
theorem yQ {D:Nat}(h:DI Z D j lq lr)(hd:nb 4294967296 ld=D)(hw:Wfb 4294967296 ld)(hv:nb 4294967296 (ld.take k)=nb 4294967296 ld):nb 4294967296 lr<4294967296^(j+k+1):=by
 have h1:=tC hw k
 rw [hv,hd] at h1
 have h2:=h.lt
 have e:D*4294967296^(j+1)≤4294967296^k*4294967296^(j+1):=eI _ (Nat.le_of_lt h1)
 rw [←dU,show k+(j+1)=j+k+1 by omega] at e
 omega
structure DF (f:Nat)(l0:List Nat)(k rest:Nat)(l:List Nat):Prop where
 len:l.length=l0.length
 wf:Wfb 4294967296 l
 rf:rest<f
 v:nb 4294967296 (l0.drop k)=nb 4294967296 (l.drop k)*f+rest
 same:∀i,i<k→l.getD i 0=l0.getD i 0
theorem DF.start (hw:Wfb 4294967296 l0)(hf:1≤f)(hl:l0.length=n):DF f l0 n 0 l0:=⟨rfl,hw,hf,by rw [List.drop_of_length_le (by omega),xY,Nat.zero_mul],fun _ _=>rfl⟩
theorem DF.step (h:DF f l0 (j+1) rest l)(hj:j<l0.length)(hd:(rest*4294967296+l.getD j 0)/f<4294967296)(hf:1≤f):DF f l0 j ((rest*4294967296+l.getD j 0)%f) (l.set j ((rest*4294967296+l.getD j 0)/f)):=by
 refine⟨by rw [List.length_set,h.len],i0 h.wf _ (hx:=hd),f7 _ hf,?_,fun i hi=>by rw [getD_set_ne (by omega),h.same i (by omega)]⟩
 rw [kF hj,kF (xs:=l.set j _) (k:=j) (by rw [List.length_set,h.len];exact hj),tL (by rw [h.len];exact hj),h.v,←h.same j (by omega),List.drop_set_of_lt (by omega)]
 have e:=Nat.div_add_mod (rest*4294967296+l.getD j 0) f
 generalize (rest*4294967296+l.getD j 0)/f=Q at*
 generalize (rest*4294967296+l.getD j 0)%f=R at*
 have o:(Q+4294967296*nb 4294967296 (List.drop (j+1) l))*f=f*Q+4294967296*(nb 4294967296 (List.drop (j+1) l)*f):=by grind
 rw [o]
 omega
theorem DF.digit (h:DF f l0 (j+1) rest l):(rest*4294967296+l.getD j 0)/f<4294967296:=by
 have h1:=i6 (b:=4294967296) h.wf j
 have h2:=h.rf
 rw [Nat.div_lt_iff_lt_mul (by omega)]
 have e:(rest+1)*4294967296≤f*4294967296:=eI _ h2
 rw [cL 4294967296 f]
 omega
theorem YI (h:DO (X*f) (nb 4294967296 ld) 0 lq lr)(hd:nb 4294967296 ld=Y*f)(hF:DF f lr 0 rest l):nb 4294967296 lq=X/Y∧nb 4294967296 l=X%Y:=by
 have h1:=h.v
 have h2:=h.lt
 have o:=hF.v
 have r:=hF.rf
 rw [gP,gP] at o
 rw [hd,Nat.pow_zero,dV] at h2
 rw [hd] at h1
 have e:(nb 4294967296 lq*Y+nb 4294967296 l)*f+rest=X*f:=by rw [dK,bX];omega
 have h0:rest=0:=by
  have:=congrArg (· %f) e
  simp only [Nat.mul_mod_left,Nat.add_comm _ rest,Nat.add_mul_mod_self_right] at this
  rwa [gN r] at this
 rw [h0,fC] at e o
 have q:=Nat.eq_of_mul_eq_mul_right (by omega:0<f) e
 have p:nb 4294967296 l<Y:=by
  rw [o] at h2
  exact Nat.lt_of_mul_lt_mul_right h2
 have:=Z1 (x:=X) (y:=Y) q p
 exact this
theorem S6 (hx:Rd w A n cap xs)(hln:n≤274877906944)(hy:Rd w D m cd es)(hlm:m≤274877906944)(hwx:Wfb 4294967296 xs)(hwe:Wfb 4294967296 es)(hxt:n=0∨xs.getD (n-1) 0≠0)(hm0:0<m)(htop:es.getD (m-1) 0≠0):aP aN 230 #[we A n cap,we D m cd] w (Gv w (T2 (WD (nb 4294967296 xs/nb 4294967296 es)) (WD (nb 4294967296 xs%nb 4294967296 es)))):=by
 have aw:=hx.len
 have je:=hx.rv.le
 have bd:=hy.len
 have ix:=hy.rv.le
 refine bN Tryz.func230 J (n:=143) J (bq J) (args:= [we A n cap,we D m cd]) (bG [(0,we A n cap),(1,we D m cd)] ⟨rfl,rfl,AT⟩ (sr (mv 2 J (a7 (aD (aD ?_))))))
 by_cases gn:n<m
 ·refine aF (mv 1 J (pu (v:= no n) J (mv 1 J (pu (v:= no m) J (aI J J J true (eD (a:=n) (b:=m) J J) (a7 (aW J (sr (mv 3 J (a7 (aV (bR (aU [S0,we A n cap] J ⟨rfl,rfl,AT⟩ ?_)))))))))))))
  have ef:=Q8 hwx aw bd gn htop
  refine⟨_,rfl,⟨_,_,rfl,⟨_,_,_,rfl,?_⟩,⟨_,_,_,rfl,?_⟩⟩,(Ext.refl w)⟩
  ·rw [i8 ef];exact Rd.nil _
  ·rw [gN ef,DL fT hwx (by rw [aw];exact hxt)];exact hx
 ·refine aF (mv 1 J (pu (v:= no n) J (mv 1 J (pu (v:= no m) J (aI J J J false (eE (a:=n) (b:=m) J J) (a7 (aQ J (aY (aO (aD ?_))))))))))
  have jw:=i6 (b:=4294967296) hwe (m-1)
  refine aF (mv 1 J (a7 (aD (bO ?_))))
  refine d8 (T:=a6×Nat)
   (fun⟨wr,f⟩=> [(0,we A n cap),(1,we D m cd),(6,up f)])
   (fun⟨wr,f⟩=>wr)
   (fun⟨wr,f⟩=>(Ext w wr)∧(1≤f)∧(f≤4294967295)∧(Rd wr A n cap xs)∧(Rd wr D m cd es))
   (fun⟨wr,f⟩=>4294967296-f)
   (⟨w,1⟩:a6×Nat) ⟨(Ext.refl w),(by decide),(by decide),hx,hy⟩ J ⟨rfl,rfl,rfl,AT⟩ ?_
  rintro⟨wr,f⟩ ⟨W,bm,ej,ba,ao⟩
  refine cR [(0,we A n cap),(1,we D m cd),(6,up f)] wr J ⟨rfl,rfl,rfl,AT⟩ (aD (aD ?_))
  have hm:(es.getD (m-1) 0)*f≤4294967295*4294967295:=jP (by omega) (by omega)
  by_cases iy:(es.getD (m-1) 0)*f<2147483648
  ·have jf:1*f≤(es.getD (m-1) 0)*f:=eI _ (by omega)
   refine aF (mv 2 J (pu (v:= no m) J (aR J J J ((m-1:Nat):Int) (gL (a:=m) (b:=1) J J) ?_)))
   obtain⟨p1,gc,ig,_⟩:=(ao).at (i:=m-1) (by omega)
   refine cD J J J bU bT (m-1) J p1 gc (bB J J (dF cT ig) (mv 1 J (aR J J J (((es.getD (m-1) 0)*f:Nat):Int) (kU (a:=es.getD (m-1) 0) (b:=f) J J) (aI J J J true (eD (a:=(es.getD (m-1) 0)*f) (b:=2147483648) J J) (a7 (aW J (aY (aO (bO (aF (mv 1 J (aR J J J ((2*f:Nat):Int) (kU (a:=2) (b:=f) J J) (mv 1 J ?_)))))))))))))
   refine aX (bQ (cM (⟨wr,2*f⟩:a6×Nat) ⟨W,(by omega),(by omega),ba,ao⟩ (show 4294967296-2*f<4294967296-f by omega) J ⟨rfl,rfl,rfl,AT⟩))
  ·refine aF (mv 2 J (pu (v:= no m) J (aR J J J ((m-1:Nat):Int) (gL (a:=m) (b:=1) J J) ?_)))
   obtain⟨p2,ir,ik,_⟩:=(ao).at (i:=m-1) (by omega)
   refine cD J J J bU bT (m-1) J p2 ir (bB J J (dF cT ik) (mv 1 J (aR J J J (((es.getD (m-1) 0)*f:Nat):Int) (kU (a:=es.getD (m-1) 0) (b:=f) J J) (aI J J J false (eE (a:=(es.getD (m-1) 0)*f) (b:=2147483648) J J) (a7 (aQ J (d4 (cU (cY (cZ (aO (sr (mv 1 J ?_)))))))))))))
   refine mv 1 J (cl (vs:= [we A n cap,up f]) W (GY ba (by omega) hwx ej) J (by kernel_rfl) fun _ _ r5 e4 L=>?_)
   obtain⟨X,_,rfl,gx,dg,go,dz,ey⟩:=r5
   have bh:w.heap.size≤X:=a8 W.size gx
   have jo:0<cap→∀a,A=some a→a.block≠X:=fun hc a ha=>by have:=(ba).rv.blk a ha hc;omega
   have jj:0<cd→∀a,D=some a→a.block≠X:=fun hc a ha=>by have:=(ao).rv.blk a ha hc;omega
   refine mv 1 J (a7 (sr (mv 2 J (cl (vs:= [we D m cd,up f]) L (GY (ao.ext e4) (by omega) hwe ej) J (by kernel_rfl) fun _ _ fx bj aa=>?_))))
   obtain⟨r,o,rfl,cm,ar,Y,p,cp⟩:=fx
   have jd:w.heap.size≤r:=a8 L.size cm
   have ju:X<r:=dJ dg.lt cm
   have jc:0<cap→∀a,A=some a→a.block≠r:=fun hc a ha=>by have:=((ba.ext e4)).rv.blk a ha hc;omega
   have jb:0<cd→∀a,D=some a→a.block≠r:=fun hc a ha=>by have:=((ao.ext e4)).rv.blk a ha hc;omega
   refine mv 1 J (a7 (sr (mv 1 J (cl (vs:= [we (some ⟨r,0,none⟩) (m+1) (m+1)]) aa (mL (ar.rd0 p.wf Y (by omega))) J (by kernel_rfl) fun _ _ ie ap av=>?_))))
   obtain⟨h,rfl,_,_,fm⟩:=ie
   refine mv 1 J (a7 (aD ?_))
   have hD:=cp
   have H:=fm 4294967296
   have fz:=UD (b:=4294967296) (by decide) (by omega) bd htop
   have cj:0<nb 4294967296 o:=by rw [hD];exact iL fz bm
   have ct:0<h:=by refine Nat.pos_of_ne_zero fun e=>?_;rw [e] at H;simp only [List.take_zero,xY] at H;omega
   have ei:=YG p (by omega) ct H
   have fv:=i6 (b:=4294967296) p (h-1)
   refine aF (mv 1 J (pu (v:= no n) J (mv 1 J (pu (v:= no m) J (aR J J J ((n-m:Nat):Int) (gL (a:=n) (b:=m) J J) (aR J J J (((n-m)+1:Nat):Int) (cA (a:=n-m) (b:=1) J J) (oA J (k:=(n-m)+1) J J J bU iD J fun E im au ck bu=>?_)))))))
   rw [j7] at ck
   have aq:w.heap.size≤E:=by rw [←au];exact av.size
   have jh:X<E:=by rw [←au];exact (dg.ext (bj.t ap)).lt
   have jr:r<E:=by rw [←au];exact (ar.ext ap).lt
   have ja:0<cap→∀a,A=some a→a.block≠E:=fun hc a ha=>by have:=((ba.ext (e4.t (bj.t ap)))).rv.blk a ha hc;omega
   have iz:0<cd→∀a,D=some a→a.block≠E:=fun hc a ha=>by have:=((ao.ext (e4.t (bj.t ap)))).rv.blk a ha hc;omega
   clear au
   have il:=av.trans bu
   refine mv 1 J (a7 (sr (mv 2 J (pu (v:= no h) J (aR J J J ((h-1:Nat):Int) (gL (a:=h) (b:=1) J J) (cD J J J bU bT (h-1) J ⟨r,h-1,none⟩ (eA _ _) (bB J J (iB cT (ar.ext (ap.t bu)) (by rw [Y];omega)) (aR J J J (((o.getD (h-1) 0)+1:Nat):Int) (iY (a:=o.getD (h-1) 0) (b:=1) J J) (mv 1 J (a7 (aD (sr (mv 1 J ?_)))))))))))))
   refine pu (v:= no n) J (mv 1 J (pu (v:= no m) J (aR J J J ((n-m:Nat):Int) (gL (a:=n) (b:=m) J J) (mv 1 J (a7 (bO ?_))))))
   refine d8 (T:=a6×Nat×Int×List Nat×List Nat)
    (fun⟨wr,k,ii,lq,lr⟩=> [(6,up f),(7,we (some ⟨X,0,none⟩) (n+1) (n+1)),(8,we (some ⟨r,0,none⟩) h (m+1)),(9,we (some ⟨E,0,none⟩) ((n-m)+1) ((n-m)+1)),(10,up (((o.getD (h-1) 0)+1:Nat):Int)),(11,no ii)])
    (fun⟨wr,k,ii,lq,lr⟩=>wr)
    (fun⟨wr,k,ii,lq,lr⟩=>(Ext w wr)∧(k≤n-m+1)∧(ii=(k:Int)-1)∧(Bk wr X 65 (lr.map bF))∧(lr.length=n+1)∧(Bk wr r 65 (o.map bF))∧(Bk wr E 65 (lq.map bF))∧(lq.length=n-m+1)∧(DO (nb 4294967296 xs*f) (nb 4294967296 o) k lq lr))
    (fun⟨wr,k,ii,lq,lr⟩=>k)
    (⟨im,n-m+1,_,_,_⟩:a6×Nat×Int×List Nat×List Nat) ⟨il,aZ _,(by omega),(dg.ext (bj.t (ap.t bu))),go,(ar.ext (ap.t bu)),ck,(List.length_replicate (n:=(n-m)+1) (a:=0)),DO.start dz ey hD bm (by have:=oL hwx;rwa [aw] at this) (CI (by decide) (by omega) bd htop) (by omega) (by omega)⟩ J ⟨rfl,rfl,rfl,rfl,rfl,rfl,AT⟩ ?_
   rintro⟨wr,k,ii,lq,lr⟩ ⟨W,hk,ga,F,U,V,M,I,hO⟩
   refine cR [(6,up f),(7,we (some ⟨X,0,none⟩) (n+1) (n+1)),(8,we (some ⟨r,0,none⟩) h (m+1)),(9,we (some ⟨E,0,none⟩) ((n-m)+1) ((n-m)+1)),(10,up (((o.getD (h-1) 0)+1:Nat):Int)),(11,no ii)] wr J ⟨rfl,rfl,rfl,rfl,rfl,rfl,AT⟩ (aD (aD ?_))
   by_cases gf:0<k
   ·obtain⟨j,rfl⟩:∃j,k=j+1:=⟨k-1,by omega⟩
    obtain rfl:ii=(j:Int):=by omega
    refine aF (mv 1 J (aI J J J true (gA (a:=j) (b:=0) J J) (a7 (aW J (aY (aO (aD (bO (bO ?_)))))))))
    have hE:=hO.enter
    clear hO
    refine d8 (T:=a6×List Nat×List Nat)
     (fun⟨wr,lq,lr⟩=> [(6,up f),(7,we (some ⟨X,0,none⟩) (n+1) (n+1)),(8,we (some ⟨r,0,none⟩) h (m+1)),(9,we (some ⟨E,0,none⟩) ((n-m)+1) ((n-m)+1)),(10,up (((o.getD (h-1) 0)+1:Nat):Int)),(11,no j)])
     (fun⟨wr,lq,lr⟩=>wr)
     (fun⟨wr,lq,lr⟩=>(Ext w wr)∧(Bk wr X 65 (lr.map bF))∧(lr.length=n+1)∧(Bk wr r 65 (o.map bF))∧(Bk wr E 65 (lq.map bF))∧(lq.length=n-m+1)∧(DI (nb 4294967296 xs*f) (nb 4294967296 o) j lq lr))
     (fun⟨wr,lq,lr⟩=>nb 4294967296 lr)
     (⟨wr,_,_⟩:a6×List Nat×List Nat) ⟨W,F,U,V,M,I,hE⟩ J ⟨rfl,rfl,rfl,rfl,rfl,rfl,AT⟩ ?_
    rintro⟨wr,lq,lr⟩ ⟨W,F,U,V,M,I,hI⟩
    refine cR [(6,up f),(7,we (some ⟨X,0,none⟩) (n+1) (n+1)),(8,we (some ⟨r,0,none⟩) h (m+1)),(9,we (some ⟨E,0,none⟩) ((n-m)+1) ((n-m)+1)),(10,up (((o.getD (h-1) 0)+1:Nat):Int)),(11,no j)] wr J ⟨rfl,rfl,rfl,rfl,rfl,rfl,AT⟩ (bO (aD ?_))
    have Z:=hI.wr
    have gy:=i6 (b:=4294967296) Z ((j+h)-1)
    have jt:=i6 (b:=4294967296) Z (j+h)
    by_cases jl:j+h<n+1
    ·have hT:=UE (b:=4294967296) (l:=lr) (i:=(j+h)-1) (i':=j+h) (by omega) (by omega)
     refine aF (mv 3 J (pu (v:= no h) J (aR J J J ((j+h:Nat):Int) (cA (a:=j) (b:=h) J J) (aR J J J (((j+h)-1:Nat):Int) (gL (a:=j+h) (b:=1) J J) (cD J J J bU bT ((j+h)-1) J ⟨X,(j+h)-1,none⟩ (eA _ _) (bB J J (iB cT F (by rw [U];omega)) (mv 1 J (a7 (aD (sr (mv 2 J (pu (v:= no h) J (aR J J J ((j+h:Nat):Int) (cA (a:=j) (b:=h) J J) ?_)))))))))))))
     refine mv 1 J (pu (v:= no (((n+1):Nat):Int)) J (aI J J J true (eD (a:=j+h) (b:=n+1) J J) (a7 (aW J (aF (mv 4 J (pu (v:= no h) J (aR J J J ((j+h:Nat):Int) (cA (a:=j) (b:=h) J J) (cD J J J bU bT (j+h) J ⟨X,j+h,none⟩ (eA _ _) (bB J J (iB cT F (by rw [U];omega)) (aR J J J (((lr.getD (j+h) 0)*4294967296:Nat):Int) (kU (a:=lr.getD (j+h) 0) (b:=4294967296) J J) (aR J J J (((lr.getD ((j+h)-1) 0)+((lr.getD (j+h) 0)*4294967296):Nat):Int) (iY (a:=lr.getD ((j+h)-1) 0) (b:=(lr.getD (j+h) 0)*4294967296) J J) (mv 1 J ?_)))))))))))))
     refine a7 (aD ?_)
     have ak:=L6 ei ct hT
     have ai:nb 4294967296 lr<nb 4294967296 o*4294967296^(j+1):=jY (Nat.le_add_left _ _) hI.lt
     by_cases dl:((lr.getD ((j+h)-1) 0)+((lr.getD (j+h) 0)*4294967296))/((o.getD (h-1) 0)+1)=0
     ·by_cases ah:nb 4294967296 o*4294967296^j≤nb 4294967296 lr
      ·have am:1*nb 4294967296 o*4294967296^j≤nb 4294967296 lr:=by rw [Nat.one_mul];exact ah
       refine aF (mv 2 J (aR J J J ((((lr.getD ((j+h)-1) 0)+((lr.getD (j+h) 0)*4294967296))/((o.getD (h-1) 0)+1):Nat):Int) (jK (a:=(lr.getD ((j+h)-1) 0)+((lr.getD (j+h) 0)*4294967296)) (b:=(o.getD (h-1) 0)+1) J J) (mv 1 J (a7 (aD (sr (mv 1 J (aI J J J true (fF (a:=((lr.getD ((j+h)-1) 0)+((lr.getD (j+h) 0)*4294967296))/((o.getD (h-1) 0)+1)) (b:=0) J J) (a7 (aW J (sr (mv 3 J (cl (vs:= [we (some ⟨X,0,none⟩) (n+1) (n+1),we (some ⟨r,0,none⟩) h (m+1),no j]) W (xO (b:=true) (F.rd0 Z.wf U (by omega)) ((V.rd0 p.wf Y (by omega)).take (k:=h) (by omega) (by omega) (aZ _)) Z (jM p _) (yQ hI J p H) (by rw [H,decide_eq_true ah])) J (by kernel_rfl) fun _ _ ij bg L=>?_)))))))))))))
       obtain rfl:=ij
       refine mv 1 J (a7 (aD (sr (mv 1 J (pu (v:= AS) J (a7 (aQ J (aY (aO (aF (mv 1 J (a7 (aD ?_)))))))))))))
       refine aF (mv 4 J ?_)
       have ab:=vR am ai
       refine dQ J J (vs:= [we (some ⟨X,0,none⟩) (n+1) (n+1),we (some ⟨r,0,none⟩) h (m+1),up 1,no j]) (by kernel_rfl) (by decide) (uU (q:=1) (s:=j) (F.ext bg) U Z (((V.ext bg).rd0 p.wf Y (by omega)).take (k:=h) (by omega) (by omega) (aZ _)) (jM p _) (fun _ a ha=>by cases ha;show r≠X;omega) ab (by rw [H];exact am)) ?_
       rintro _ _ ⟨rfl,bp,l3,fk,dx,ae,G⟩
       rw [H] at G
       refine dR ?_
       have dh:=hI.digit G
       have aa:=bp.ext L bh
       refine a7 (aF (mv 4 J (cD J J J bU bT j J ⟨E,j,none⟩ (eA _ _) (bB J J (iB cT ((M.ext bg).vN bp) (by rw [I];omega)) (mv 1 J (aR J J J (((lq.getD j 0)+1:Nat):Int) (iY (a:=lq.getD j 0) (b:=1) J J) (cD J J J bU bT j J ⟨E,j,none⟩ (eA _ _) ?_)))))))
       have dm:=((M.ext bg).vN bp)
       refine dE J J J bT J dm (gV (by rw [I];omega)) J ((lq.set j ((lq.getD j 0)+1)).map bF) (dX _ _ _) fun ge fi cv _=>?_
       have av:=cv.ext aa aq
       refine aX (bQ (cM (⟨ge,_,_⟩:a6×List Nat×List Nat) ⟨av,(fk.vN cv),dx,(((V.ext bg).vN bp).vN cv),fi,(iC (l:=lq) (I)),hI.step (by omega) ae G⟩ (yP (aZ 1) cj G) J ⟨rfl,rfl,rfl,rfl,rfl,rfl,AT⟩))
      ·refine aF (mv 2 J (aR J J J ((((lr.getD ((j+h)-1) 0)+((lr.getD (j+h) 0)*4294967296))/((o.getD (h-1) 0)+1):Nat):Int) (jK (a:=(lr.getD ((j+h)-1) 0)+((lr.getD (j+h) 0)*4294967296)) (b:=(o.getD (h-1) 0)+1) J J) (mv 1 J (a7 (aD (sr (mv 1 J (aI J J J true (fF (a:=((lr.getD ((j+h)-1) 0)+((lr.getD (j+h) 0)*4294967296))/((o.getD (h-1) 0)+1)) (b:=0) J J) (a7 (aW J (sr (mv 3 J (cl (vs:= [we (some ⟨X,0,none⟩) (n+1) (n+1),we (some ⟨r,0,none⟩) h (m+1),no j]) W (xO (b:=false) (F.rd0 Z.wf U (by omega)) ((V.rd0 p.wf Y (by omega)).take (k:=h) (by omega) (by omega) (aZ _)) Z (jM p _) (yQ hI J p H) (by rw [H,decide_eq_false ah])) J (by kernel_rfl) fun _ iv iu nJ L=>?_)))))))))))))
       obtain rfl:=iu
       refine mv 1 J (a7 (aD (sr (mv 1 J (pu (v:= AI) J (a7 (aW J (d4 (cU (cU (rR (cY (cZ ?_)))))))))))))
       refine bQ (aO (aF (mv 1 J (aR J J J (((j:Nat):Int)-1) (eL J) (mv 1 J (aX (cM (⟨iv,j,_,_,_⟩:a6×Nat×Int×List Nat×List Nat) ⟨L,(by omega),(by omega),(F.ext nJ),U,(V.ext nJ),(M.ext nJ),I,hI.leave ah⟩ (show j<j+1 by omega) J ⟨rfl,rfl,rfl,rfl,rfl,rfl,AT⟩)))))))
     ·refine aF (mv 2 J (aR J J J ((((lr.getD ((j+h)-1) 0)+((lr.getD (j+h) 0)*4294967296))/((o.getD (h-1) 0)+1):Nat):Int) (jK (a:=(lr.getD ((j+h)-1) 0)+((lr.getD (j+h) 0)*4294967296)) (b:=(o.getD (h-1) 0)+1) J J) (mv 1 J (a7 (aD (sr (mv 1 J (aI J J J false (eR (a:=((lr.getD ((j+h)-1) 0)+((lr.getD (j+h) 0)*4294967296))/((o.getD (h-1) 0)+1)) (b:=0) J J) (a7 (aQ J (aY (aO (aD ?_)))))))))))))
      refine aF (mv 4 J ?_)
      have ab:=vR ak ai
      refine dQ J J (vs:= [we (some ⟨X,0,none⟩) (n+1) (n+1),we (some ⟨r,0,none⟩) h (m+1),up ((((lr.getD ((j+h)-1) 0)+((lr.getD (j+h) 0)*4294967296))/((o.getD (h-1) 0)+1):Nat):Int),no j]) (by kernel_rfl) (by decide) (uU (q:=((lr.getD ((j+h)-1) 0)+((lr.getD (j+h) 0)*4294967296))/((o.getD (h-1) 0)+1)) (s:=j) F U Z ((V.rd0 p.wf Y (by omega)).take (k:=h) (by omega) (by omega) (aZ _)) (jM p _) (fun _ a ha=>by cases ha;show r≠X;omega) ab (by rw [H];exact ak)) ?_
      rintro _ _ ⟨rfl,ci,l3,fq,fe,ae,G⟩
      rw [H] at G
      refine dR ?_
      have dh:=hI.digit G
      have L:=ci.ext W bh
      refine a7 (aF (mv 4 J (cD J J J bU bT j J ⟨E,j,none⟩ (eA _ _) (bB J J (iB cT (M.vN ci) (by rw [I];omega)) (mv 1 J (aR J J J (((lq.getD j 0)+(((lr.getD ((j+h)-1) 0)+((lr.getD (j+h) 0)*4294967296))/((o.getD (h-1) 0)+1)):Nat):Int) (iY (a:=lq.getD j 0) (b:=((lr.getD ((j+h)-1) 0)+((lr.getD (j+h) 0)*4294967296))/((o.getD (h-1) 0)+1)) J J) (cD J J J bU bT j J ⟨E,j,none⟩ (eA _ _) ?_)))))))
      have fj:=(M.vN ci)
      refine dE J J J bT J fj (gV (by rw [I];omega)) J ((lq.set j ((lq.getD j 0)+(((lr.getD ((j+h)-1) 0)+((lr.getD (j+h) 0)*4294967296))/((o.getD (h-1) 0)+1)))).map bF) (dX _ _ _) fun ia dy de _=>?_
      have aa:=de.ext L aq
      refine aX (bQ (cM (⟨ia,_,_⟩:a6×List Nat×List Nat) ⟨aa,(fq.vN de),fe,((V.vN ci).vN de),dy,(iC (l:=lq) (I)),hI.step (by omega) ae G⟩ (yP (Nat.pos_of_ne_zero dl) cj G) J ⟨rfl,rfl,rfl,rfl,rfl,rfl,AT⟩))
    ·have hT:=J3 (b:=4294967296) (l:=lr) (i:=(j+h)-1) (by omega)
     refine aF (mv 3 J (pu (v:= no h) J (aR J J J ((j+h:Nat):Int) (cA (a:=j) (b:=h) J J) (aR J J J (((j+h)-1:Nat):Int) (gL (a:=j+h) (b:=1) J J) (cD J J J bU bT ((j+h)-1) J ⟨X,(j+h)-1,none⟩ (eA _ _) (bB J J (iB cT F (by rw [U];omega)) (mv 1 J (a7 (aD (sr (mv 2 J (pu (v:= no h) J (aR J J J ((j+h:Nat):Int) (cA (a:=j) (b:=h) J J) ?_)))))))))))))
     refine mv 1 J (pu (v:= no (((n+1):Nat):Int)) J (aI J J J false (eE (a:=j+h) (b:=n+1) J J) (a7 (aQ J (aY (aO (aD ?_)))))))
     have ak:=L6 ei ct hT
     have ai:nb 4294967296 lr<nb 4294967296 o*4294967296^(j+1):=jY (Nat.le_add_left _ _) hI.lt
     by_cases dl:(lr.getD ((j+h)-1) 0)/((o.getD (h-1) 0)+1)=0
     ·by_cases ah:nb 4294967296 o*4294967296^j≤nb 4294967296 lr
      ·have am:1*nb 4294967296 o*4294967296^j≤nb 4294967296 lr:=by rw [Nat.one_mul];exact ah
       refine aF (mv 2 J (aR J J J (((lr.getD ((j+h)-1) 0)/((o.getD (h-1) 0)+1):Nat):Int) (jK (a:=lr.getD ((j+h)-1) 0) (b:=(o.getD (h-1) 0)+1) J J) (mv 1 J (a7 (aD (sr (mv 1 J (aI J J J true (fF (a:=(lr.getD ((j+h)-1) 0)/((o.getD (h-1) 0)+1)) (b:=0) J J) (a7 (aW J (sr (mv 3 J (cl (vs:= [we (some ⟨X,0,none⟩) (n+1) (n+1),we (some ⟨r,0,none⟩) h (m+1),no j]) W (xO (b:=true) (F.rd0 Z.wf U (by omega)) ((V.rd0 p.wf Y (by omega)).take (k:=h) (by omega) (by omega) (aZ _)) Z (jM p _) (yQ hI J p H) (by rw [H,decide_eq_true ah])) J (by kernel_rfl) fun _ _ gi bi L=>?_)))))))))))))
       obtain rfl:=gi
       refine mv 1 J (a7 (aD (sr (mv 1 J (pu (v:= AS) J (a7 (aQ J (aY (aO (aF (mv 1 J (a7 (aD ?_)))))))))))))
       refine aF (mv 4 J ?_)
       have ab:=vR am ai
       refine dQ J J (vs:= [we (some ⟨X,0,none⟩) (n+1) (n+1),we (some ⟨r,0,none⟩) h (m+1),up 1,no j]) (by kernel_rfl) (by decide) (uU (q:=1) (s:=j) (F.ext bi) U Z (((V.ext bi).rd0 p.wf Y (by omega)).take (k:=h) (by omega) (by omega) (aZ _)) (jM p _) (fun _ a ha=>by cases ha;show r≠X;omega) ab (by rw [H];exact am)) ?_
       rintro _ _ ⟨rfl,bw,l3,fp,fb,ae,G⟩
       rw [H] at G
       refine dR ?_
       have dh:=hI.digit G
       have aa:=bw.ext L bh
       refine a7 (aF (mv 4 J (cD J J J bU bT j J ⟨E,j,none⟩ (eA _ _) (bB J J (iB cT ((M.ext bi).vN bw) (by rw [I];omega)) (mv 1 J (aR J J J (((lq.getD j 0)+1:Nat):Int) (iY (a:=lq.getD j 0) (b:=1) J J) (cD J J J bU bT j J ⟨E,j,none⟩ (eA _ _) ?_)))))))
       have eh:=((M.ext bi).vN bw)
       refine dE J J J bT J eh (gV (by rw [I];omega)) J ((lq.set j ((lq.getD j 0)+1)).map bF) (dX _ _ _) fun gg eg da _=>?_
       have av:=da.ext aa aq
       refine aX (bQ (cM (⟨gg,_,_⟩:a6×List Nat×List Nat) ⟨av,(fp.vN da),fb,(((V.ext bi).vN bw).vN da),eg,(iC (l:=lq) (I)),hI.step (by omega) ae G⟩ (yP (aZ 1) cj G) J ⟨rfl,rfl,rfl,rfl,rfl,rfl,AT⟩))
      ·refine aF (mv 2 J (aR J J J (((lr.getD ((j+h)-1) 0)/((o.getD (h-1) 0)+1):Nat):Int) (jK (a:=lr.getD ((j+h)-1) 0) (b:=(o.getD (h-1) 0)+1) J J) (mv 1 J (a7 (aD (sr (mv 1 J (aI J J J true (fF (a:=(lr.getD ((j+h)-1) 0)/((o.getD (h-1) 0)+1)) (b:=0) J J) (a7 (aW J (sr (mv 3 J (cl (vs:= [we (some ⟨X,0,none⟩) (n+1) (n+1),we (some ⟨r,0,none⟩) h (m+1),no j]) W (xO (b:=false) (F.rd0 Z.wf U (by omega)) ((V.rd0 p.wf Y (by omega)).take (k:=h) (by omega) (by omega) (aZ _)) Z (jM p _) (yQ hI J p H) (by rw [H,decide_eq_false ah])) J (by kernel_rfl) fun _ iq gj lM L=>?_)))))))))))))
       obtain rfl:=gj
       refine mv 1 J (a7 (aD (sr (mv 1 J (pu (v:= AI) J (a7 (aW J (d4 (cU (cU (rR (cY (cZ ?_)))))))))))))
       refine bQ (aO (aF (mv 1 J (aR J J J (((j:Nat):Int)-1) (eL J) (mv 1 J (aX (cM (⟨iq,j,_,_,_⟩:a6×Nat×Int×List Nat×List Nat) ⟨L,(by omega),(by omega),(F.ext lM),U,(V.ext lM),(M.ext lM),I,hI.leave ah⟩ (show j<j+1 by omega) J ⟨rfl,rfl,rfl,rfl,rfl,rfl,AT⟩)))))))
     ·refine aF (mv 2 J (aR J J J (((lr.getD ((j+h)-1) 0)/((o.getD (h-1) 0)+1):Nat):Int) (jK (a:=lr.getD ((j+h)-1) 0) (b:=(o.getD (h-1) 0)+1) J J) (mv 1 J (a7 (aD (sr (mv 1 J (aI J J J false (eR (a:=(lr.getD ((j+h)-1) 0)/((o.getD (h-1) 0)+1)) (b:=0) J J) (a7 (aQ J (aY (aO (aD ?_)))))))))))))
      refine aF (mv 4 J ?_)
      have ab:=vR ak ai
      refine dQ J J (vs:= [we (some ⟨X,0,none⟩) (n+1) (n+1),we (some ⟨r,0,none⟩) h (m+1),up (((lr.getD ((j+h)-1) 0)/((o.getD (h-1) 0)+1):Nat):Int),no j]) (by kernel_rfl) (by decide) (uU (q:=(lr.getD ((j+h)-1) 0)/((o.getD (h-1) 0)+1)) (s:=j) F U Z ((V.rd0 p.wf Y (by omega)).take (k:=h) (by omega) (by omega) (aZ _)) (jM p _) (fun _ a ha=>by cases ha;show r≠X;omega) ab (by rw [H];exact ak)) ?_
      rintro _ _ ⟨rfl,ch,l3,du,fc,ae,G⟩
      rw [H] at G
      refine dR ?_
      have dh:=hI.digit G
      have L:=ch.ext W bh
      refine a7 (aF (mv 4 J (cD J J J bU bT j J ⟨E,j,none⟩ (eA _ _) (bB J J (iB cT (M.vN ch) (by rw [I];omega)) (mv 1 J (aR J J J (((lq.getD j 0)+((lr.getD ((j+h)-1) 0)/((o.getD (h-1) 0)+1)):Nat):Int) (iY (a:=lq.getD j 0) (b:=(lr.getD ((j+h)-1) 0)/((o.getD (h-1) 0)+1)) J J) (cD J J J bU bT j J ⟨E,j,none⟩ (eA _ _) ?_)))))))
      have fa:=(M.vN ch)
      refine dE J J J bT J fa (gV (by rw [I];omega)) J ((lq.set j ((lq.getD j 0)+((lr.getD ((j+h)-1) 0)/((o.getD (h-1) 0)+1)))).map bF) (dX _ _ _) fun gk en cu _=>?_
      have aa:=cu.ext L aq
      refine aX (bQ (cM (⟨gk,_,_⟩:a6×List Nat×List Nat) ⟨aa,(du.vN cu),fc,((V.vN ch).vN cu),en,(iC (l:=lq) (I)),hI.step (by omega) ae G⟩ (yP (Nat.pos_of_ne_zero dl) cj G) J ⟨rfl,rfl,rfl,rfl,rfl,rfl,AT⟩))
   ·obtain rfl:k=0:=by omega
    refine aF (mv 1 J (aI J J J false (kQ) (a7 (aQ J (d4 (cU (cY (cZ (aO (sr (mv 1 J (a7 (aD ?_)))))))))))))
    refine sr (mv 1 J (pu (v:= no (((n+1):Nat):Int)) J (aR J J J (((n+1)-1:Nat):Int) (gL (a:=n+1) (b:=1) J J) (mv 1 J (a7 (bO ?_))))))
    refine d8 (T:=a6×Nat×Int×Nat×List Nat)
     (fun⟨wr,k,ii,rest,l⟩=> [(6,up f),(7,we (some ⟨X,0,none⟩) (n+1) (n+1)),(9,we (some ⟨E,0,none⟩) ((n-m)+1) ((n-m)+1)),(15,up rest),(16,no ii)])
     (fun⟨wr,k,ii,rest,l⟩=>wr)
     (fun⟨wr,k,ii,rest,l⟩=>(Ext w wr)∧(k≤n+1)∧(ii=(k:Int)-1)∧(Bk wr X 65 (l.map bF))∧(Bk wr E 65 (lq.map bF))∧(DF f lr k rest l))
     (fun⟨wr,k,ii,rest,l⟩=>k)
     (⟨wr,n+1,_,0,lr⟩:a6×Nat×Int×Nat×List Nat) ⟨W,aZ _,(by omega),F,M,DF.start hO.wr bm U⟩ J ⟨rfl,rfl,rfl,rfl,rfl,AT⟩ ?_
    rintro⟨wr,k,ii,rest,l⟩ ⟨W,hk,ga,F,M,hF⟩
    refine cR [(6,up f),(7,we (some ⟨X,0,none⟩) (n+1) (n+1)),(9,we (some ⟨E,0,none⟩) ((n-m)+1) ((n-m)+1)),(15,up rest),(16,no ii)] wr J ⟨rfl,rfl,rfl,rfl,rfl,AT⟩ ?_
    have bf:=hF.len
    rw [U] at bf
    refine aD (aD ?_)
    by_cases gf:0<k
    ·obtain⟨j,rfl⟩:∃j,k=j+1:=⟨k-1,by omega⟩
     obtain rfl:ii=(j:Int):=by omega
     refine aF (mv 1 J (aI J J J true (gA (a:=j) (b:=0) J J) (a7 (aW J (aY (aO (aD (bO (aD ?_)))))))))
     have dr:=hF.digit
     have gy:=i6 (b:=4294967296) hF.wf j
     have ji:=hF.rf
     refine aF (mv 1 J (aR J J J ((rest*4294967296:Nat):Int) (kU (a:=rest) (b:=4294967296) J J) (mv 2 J (cD J J J bU bT j J ⟨X,j,none⟩ (eA _ _) (bB J J (iB cT F (by rw [bf];omega)) (aR J J J (((rest*4294967296)+(l.getD j 0):Nat):Int) (iY (a:=rest*4294967296) (b:=l.getD j 0) J J) (mv 1 J (a7 (sr (mv 4 J (aR J J J ((((rest*4294967296)+(l.getD j 0))/f:Nat):Int) (jK (a:=(rest*4294967296)+(l.getD j 0)) (b:=f) J J) (cD J J J bU bT j J ⟨X,j,none⟩ (eA _ _) ?_))))))))))))
     have fo:=F
     refine dE J J J bT J fo (gV (by rw [bf];omega)) J ((l.set j (((rest*4294967296)+(l.getD j 0))/f)).map bF) (dX _ _ _) fun fy fd fh _=>?_
     have L:=fh.ext W bh
     refine a7 (aF (mv 2 J (aR J J J ((((rest*4294967296)+(l.getD j 0))%f:Nat):Int) (jJ (a:=(rest*4294967296)+(l.getD j 0)) (b:=f) J J) (mv 1 J (aX (bQ (aO (aF (mv 1 J (aR J J J (((j:Nat):Int)-1) (eL J) (mv 1 J (aX (cM (⟨fy,j,_,_,_⟩:a6×Nat×Int×Nat×List Nat) ⟨L,(by omega),rfl,fd,(M.vN fh),hF.step (by omega) dr bm⟩ (show j<j+1 by omega) J ⟨rfl,rfl,rfl,rfl,rfl,AT⟩)))))))))))))
    ·obtain rfl:k=0:=by omega
     refine aF (mv 1 J (aI J J J false (kQ) (a7 (aQ J (d4 (cU (cY (cZ (aO (sr (mv 1 J (cl (vs:= [we (some ⟨E,0,none⟩) ((n-m)+1) ((n-m)+1)]) W (mL (M.rd0 hO.wq.wf I (by omega))) J (by kernel_rfl) fun _ _ io cz L=>?_))))))))))))
     obtain⟨iw,rfl,fg,dw,el⟩:=io
     refine mv 1 J (cl (vs:= [we (some ⟨X,0,none⟩) (n+1) (n+1)]) L (mL ((F.ext cz).rd0 hF.wf.wf bf (by omega))) J (by kernel_rfl) fun _ _ ib ez aa=>?_)
     obtain⟨gr,rfl,dt,em,ew⟩:=ib
     refine mv 2 J (a7 (aV (aU [we (some ⟨E,0,none⟩) iw ((n-m)+1),we (some ⟨X,0,none⟩) gr (n+1)] J ⟨rfl,rfl,AT⟩ ?_)))
     obtain⟨e1,e2⟩:=YI hO hD hF
     refine⟨_,rfl,⟨_,_,rfl,⟨_,_,_,rfl,?_⟩,⟨_,_,_,rfl,?_⟩⟩,aa⟩
     ·rw [←e1];exact ((M.ext (cz.t ez)).rd0 hO.wq.wf I (by omega)).trim hO.wq fg dw el
     ·rw [←e2];exact ((F.ext (cz.t ez)).rd0 hF.wf.wf bf (by omega)).trim hF.wf dt em ew
theorem BW (hb:b≤w.heap.size)(hx:Rd w A n cap (db 4294967296 m))(hln:n≤1099511627776:=by omega):aP aN 231 #[we A n cap] w (Gv w (WR b m)):=by
 have h:=BX hx hln (jX fT _)
 rw [gI fT] at h
 exact h.mono (Gv.imp (WR.imp hb))
theorem H5 (hx:Rd w A n cap (db 4294967296 X))(hln:n≤274877906944)(hy:Rd w D m cd (db 4294967296 Y))(hlm:m≤274877906944)(hY:Y≠0):aP aN 230 #[we A n cap,we D m cd] w (Gv w (T2 (WD (X/Y)) (WD (X%Y)))):=by
 have hl:=hx.len
 have f:=hy.len
 have h1:=yV fT X
 have h2:=yV fT Y
 rw [hl] at h1
 rw [f] at h2
 have o:0<m:=by
  refine Nat.pos_of_ne_zero fun e=>hY ?_
  rw [←rJ fT (n:=Y),f,e]
 have h:=S6 hx hln hy hlm (jX fT _) (jX fT _) h1 o (by omega)
 rw [gI fT,gI fT] at h
 exact h
theorem VE (h:Wf xs):(db 4294967296 (nv xs)).length≤2*xs.length:=by
 refine kD fT ?_
 have:=iV h
 rwa [wA,←Nat.pow_mul] at this
theorem Rd.hl {n0 c0:Nat}(h:Rd w A k c (db 4294967296 m))(hx:Rd w0 A0 n0 c0 xs)(hm:m≤nv xs):k≤2*n0:=by
 have h1:=h.len
 have h2:=VE hx.wf
 rw [hx.len] at h2
 have e:=tI fT hm
 omega
theorem SA (hx:Rd w A n cap xs)(hln:n≤137438953472)(hy:Rd w D m cd ys)(hlm:m≤137438953472)(hy0:nv ys≠0):aP aN 190 #[we A n cap,we D m cd] w (Gv w (T3 (WR w.heap.size (nv xs/nv ys)) (WR w.heap.size (nv xs%nv ys)) (Is (no 0)))):=by
 refine bN Tryz.func190 J (n:=28) J (bq J) (args:= [we A n cap,we D m cd]) (bG [(0,we A n cap),(1,we D m cd)] ⟨rfl,rfl,AT⟩ (sr (mv 3 J (a7 (sr (mv 1 J (cl (vs:= [we D m cd]) (Ext.refl w) (sZ hy) J (by kernel_rfl) fun _ _ r3 e2 aq=>?_)))))))
 obtain⟨A4,L,c4,rfl,o⟩:=r3
 refine mv 1 J (a7 (aD (aD ?_)))
 have bf:=o.hl hy (aZ _)
 have Z:=o.len
 have aw:L≠0:=fun e=>hy0 (by rw [←rJ fT (n:=nv ys),Z,e])
 refine aF (mv 1 J (pu (v:= no L) J (aI J J J false (eR (a:=L) (b:=0) J J) (a7 (aQ J (aY (aO (sr (mv 1 J (cl (vs:= [we A n cap]) aq (sZ (hx.ext e2)) J (by kernel_rfl) fun _ _ r7 e6 ap=>?_))))))))))
 obtain⟨A8,n8,c8,rfl,eO⟩:=r7
 refine mv 1 J (a7 (aD ?_))
 have au:=eO.hl hx (aZ _)
 refine aF (mv 2 J (cl (vs:= [we A8 n8 c8,we A4 L c4]) ap (H5 eO (by omega) (o.ext e6) (by omega) hy0) J (by kernel_rfl) fun _ _ W _ r=>?_))
 obtain⟨_,_,rfl,⟨H,p,I,rfl,h⟩,⟨E,q,F,rfl,f⟩⟩:=W
 refine mv 1 J (pu (v:= we H p I) J (pu (v:= we E q F) J (mv 2 J (a7 (aD ?_)))))
 have ar:=h.hl hx (fH _ _)
 have av:=f.hl hx (Nat.mod_le _ _)
 refine aF (mv 1 J (cl (vs:= [we H p I]) r (BW r.size h) J (by kernel_rfl) fun _ _ ak M G=>?_))
 obtain⟨aj,ah,Y,rfl,V,ao⟩:=ak
 refine mv 1 J (cl (vs:= [we E q F]) G (BW G.size (f.ext M)) J (by kernel_rfl) fun _ _ am ag U=>?_)
 obtain⟨ai,ae,aa,rfl,ab,X⟩:=am
 refine mv 3 J (a7 (aV (aU [we aj ah Y,we ai ae aa,I0] J ⟨rfl,rfl,rfl,AT⟩ ?_)))
 exact⟨_,rfl,⟨_,_,_,rfl,⟨_,_,_,rfl,V,(ao.ext ag)⟩,⟨_,_,_,rfl,ab,X⟩,rfl⟩,U⟩
theorem SB {xs:List Nat}(hy:Rd w D m cd ys)(hlm:m≤137438953472)(hy0:nv ys=0):aP aN 190 #[we A n cap,we D m cd] w (Gv w (Is (.tuple #[we none 0 0,we none 0 0,no 4]))):=by
 refine bN Tryz.func190 J (n:=28) J (bq J) (args:= [we A n cap,we D m cd]) (bG [(0,we A n cap),(1,we D m cd)] ⟨rfl,rfl,AT⟩ (sr (mv 3 J (a7 (sr (mv 1 J (cl (vs:= [we D m cd]) (Ext.refl w) (sZ hy) J (by kernel_rfl) fun _ _ p _ h=>?_)))))))
 obtain⟨_,o,_,rfl,f⟩:=p
 refine mv 1 J (a7 (aD (aD ?_)))
 have q:=f.hl hy (aZ _)
 have e:=f.len
 rw [hy0,jH] at e
 simp only [List.length_nil] at e
 refine aF (mv 1 J (pu (v:= no o) J (aI J J J true (fF (a:=o) (b:=0) J J) (a7 (aW J (sr (mv 3 J (a7 (aV (bR (aU [S0,S0,no 4] J ⟨rfl,rfl,rfl,AT⟩ ?_)))))))))))
 exact⟨_,rfl,rfl,h⟩
theorem Zi.sg (h:Zi w s A n cap z):Go.Proofs.YtkepckmdjncehaaGreatDoor.sg s z.natAbs=z:=by
 obtain⟨xs,_,rfl⟩:=h
 rw [lB]
theorem V9 (h:ln x=0):x=0:=by
 have:=m0.1 (show (wd x.natAbs).length=0 from h)
 omega
theorem iQ (s:Bool)(m:Nat):ln (sg s m)=(wd m).length:=by unfold ln;rw [lB]
theorem xJ (h:x<y):bE x y= -1:=by unfold bE;rw [if_pos h]
theorem xH (h:y<x):bE x y=1:=by unfold bE;rw [if_neg (by omega),if_neg (by omega)]
theorem QM (h:x=y):bE x y=0:=kA.2 h
theorem QQ (h:bE x 0<bE y 0):bE x y= -1:=xJ (by unfold bE at h;split at h <;> split at h <;> (try split at h) <;> omega)
theorem QR (h:bE y 0<bE x 0):bE x y=1:=xH (by unfold bE at h;split at h <;> split at h <;> (try split at h) <;> omega)
theorem QN (h:bE x 0=bE y 0):bE x 0*dY (Int.natAbs x) (Int.natAbs y)=bE x y:=by
 rcases Int.lt_trichotomy x 0 with hx | hx | hx
 ·have e:y<0:=pH.1 (by rw [←h,xJ hx];decide)
  rw [xJ hx]
  unfold bE dY
  by_cases h1:x<y
  ·rw [if_neg (by omega),if_neg (by omega),if_pos h1];rfl
  ·by_cases h2:x=y
   ·rw [if_neg (by omega),if_pos (by omega),if_neg h1,if_pos h2];rfl
   ·rw [if_pos (by omega),if_neg h1,if_neg h2];rfl
 ·subst hx
  have e:y=0:=kA.1 (by rw [←h];rfl)
  subst e;rfl
 ·have e:0<y:=qV.1 (by rw [←h,xH hx];decide)
  rw [xH hx,Int.one_mul]
  unfold bE dY
  by_cases h1:x<y
  ·rw [if_pos (by omega),if_pos h1]
  ·by_cases h2:x=y
   ·rw [if_neg (by omega),if_pos (by omega),if_neg h1,if_pos h2]
   ·rw [if_neg (by omega),if_neg (by omega),if_neg h1,if_neg h2]
theorem LO {x y:Nat}(h:y≤x):cG .geq (dY x y) 0=some true:=by
 have e:¬dY x y<0:=fun e=>by have:=lO.1 e;omega
 exact rN
theorem LP {x y:Nat}(h:¬y≤x):cG .geq (dY x y) 0=some false:=by
 have e:=lO.2 (show x<y by omega)
 exact kQ
section
variable {w:a6}{A B:Option aB}{n cap m cap' i j:Nat}
theorem WX (hb:b≤w.heap.size)(hx:Wi w A n cap i)(hl:n≤68719476735):aP aN 180 #[we A n cap] w (Gv w (WR b i)):=by
 obtain⟨xs,h1,rfl⟩:=hx
 exact (SH h1 (by omega)).mono (gw hb)
theorem KO (hb:b≤w.heap.size)(hx:Wi w A n cap i)(hl:n≤68719476735)(hy:Wi w B m cap' j)(hl':m≤68719476735):aP aN 129 #[we A n cap,we B m cap'] w (Gv w (WR b (i+j))):=by
 obtain⟨xs,h1,rfl⟩:=hx
 obtain⟨ys,h2,rfl⟩:=hy
 exact (SJ h1 (by omega) h2 (by omega)).mono (gw hb)
theorem vO (hx:Wi w A n cap i)(hl:n≤68719476735)(hy:Wi w B m cap' j)(hl':m≤68719476735):aP aN 128 #[we A n cap,we B m cap'] w (Gv w (Is (no (dY i j)))):=by
 obtain⟨xs,h1,rfl⟩:=hx
 obtain⟨ys,h2,rfl⟩:=hy
 exact (SI h1 (by omega) h2 (by omega)).mono KB
theorem yM (hb:b≤w.heap.size)(hx:Wi w A n cap i)(hl:n≤68719476735)(hy:Wi w B m cap' j)(hl':m≤68719476735)(hij:j≤i):aP aN 130 #[we A n cap,we B m cap'] w (Gv w (T2 (WR b (i-j)) (Is (no 0)))):=by
 obtain⟨xs,h1,rfl⟩:=hx
 obtain⟨ys,h2,rfl⟩:=hy
 exact (SF h1 (by omega) h2 (by omega) hij).mono (Gv.imp (T2.imp (WR.imp hb) Is.imp))
theorem WV (hb:b≤w.heap.size)(hx:Wi w A n cap i)(hl:n≤68719476735)(hy:Wi w B m cap' j)(hl':m≤68719476735):aP aN 131 #[we A n cap,we B m cap'] w (Gv w (WR b (i*j))):=by
 obtain⟨xs,h1,rfl⟩:=hx
 obtain⟨ys,h2,rfl⟩:=hy
 exact (SE h1 hl h2 hl').mono (gw hb)
theorem WU (hb:b≤w.heap.size)(hx:Wi w A n cap i)(hl:n≤68719476735)(hy:Wi w B m cap' j)(hl':m≤68719476735)(h0:j≠0):aP aN 190 #[we A n cap,we B m cap'] w (Gv w (T3 (WR b (i/j)) (WR b (i%j)) (Is (no 0)))):=by
 obtain⟨xs,h1,rfl⟩:=hx
 obtain⟨ys,h2,rfl⟩:=hy
 exact (SA h1 (by omega) h2 (by omega) h0).mono (Gv.imp (T3.imp (WR.imp hb) (WR.imp hb) Is.imp))
theorem WT (hy:Wi w B m cap' j)(hl':m≤68719476735)(h0:j=0):aP aN 190 #[we A n cap,we B m cap'] w (Gv w (Is (.tuple #[we none 0 0,we none 0 0,no 4]))):=by
 obtain⟨ys,h2,rfl⟩:=hy
 exact SB (xs:= []) h2 (by omega) h0
end
theorem jD (hb:b≤w.heap.size)(hx:Wi w A n cap m)(hl:n≤68719476735):aP aN 127 #[.bool s,we A n cap] w (Gv w (ZR b (sg s m))):=by
 refine Calls.mono (R:=Gv w (ZR w.heap.size (sg s m))) ?_ (Gv.imp (ZR.imp hb))
 refine bN Tryz.func127 J (n:=16) J (bq J) (args:= (a5 s A n cap)) (bG [(0,.bool s),(1,we A n cap)] ⟨rfl,rfl,AT⟩ (sr (al [F0,S0] (Ext.refl w) (fun _=>by kernel_rfl) J fun _ _ G F _ I=>(a7 (sr (mv 1 J (cl (vs:= [we A n cap]) I (WX I.size (hx.ext I) (aK hl J)) J (by kernel_rfl) fun _ _ r8 Y H=>?_)))))))
 obtain⟨h,f,o,rfl,U,o9⟩:=r8
 refine mv 1 J (a7 (aD ?_))
 by_cases hs:s=true
 ·subst hs
  by_cases q:m=0
  ·have X:f=0:=by rw [U,q,nC];rfl
   refine aF (mv 3 J (pu (v:= no f) J (aI J J J false (oN) (pu (v:= AS) J (mv 1 J (pu (v:= .agg #[F0,we h f o]) J ?_))))))
   have r:=(G.ext Y)
   refine so aA r [F0,we h f o] H F J J J J fun _ V aa p=>(a7 (aV (aU [.agg #[F0,we h f o]] J ⟨⟨_,rfl,bH aA V [F0,we h f o] J (bq J) rfl⟩,AT⟩ ?_)))
   exact⟨_,rfl,⟨_,_,_,_,rfl,((jL (m:=m) (s:=true) (z:=sg true m) (by rw [uP,q];rfl) U o9 J).updT r aa)⟩,p⟩
  ·have X:f≠0:=fun e=>q (m0.1 (by rw [←U,e]))
   refine aF (mv 3 J (pu (v:= no f) J (aI J J J true (vK (by omega)) (pu (v:= AI) J (mv 1 J (pu (v:= O true h f o) J ?_))))))
   have D:=(G.ext Y)
   refine so aA D (a5 true h f o) H F J J J J fun _ L Z p=>(a7 (aV (aU [O true h f o] J ⟨⟨_,rfl,bH aA L (a5 true h f o) J (bq J) rfl⟩,AT⟩ ?_)))
   exact⟨_,rfl,⟨_,_,_,_,rfl,((jL (m:=m) (s:=true) (z:=sg true m) (by rw [uP,decide_eq_true (Nat.pos_of_ne_zero q)];rfl) U o9 J).updT D Z)⟩,p⟩
 ·replace hs:s=false:=by simpa using hs
  subst hs
  refine aF (mv 5 J (pu (v:= AS) J (mv 1 J (pu (v:= .agg #[F0,we h f o]) J ?_))))
  have E:=(G.ext Y)
  refine so aA E [F0,we h f o] H F J J J J fun _ M W p=>(a7 (aV (aU [.agg #[F0,we h f o]] J ⟨⟨_,rfl,bH aA M [F0,we h f o] J (bq J) rfl⟩,AT⟩ ?_)))
  exact⟨_,rfl,⟨_,_,_,_,rfl,((jL (m:=m) (s:=false) (z:=sg false m) (by rw [uP];rfl) U o9 J).updT E W)⟩,p⟩
theorem D4 (hb:b≤w.heap.size)(hx:Zi w sa Aa na ca x)(la:na≤17179869183):aP aN 41 #[O sa Aa na ca] w (Gv w (ZR b (x))):=by
 refine Calls.mono (R:=Gv w (ZR w.heap.size (x))) ?_ (Gv.imp (ZR.imp hb))
 have Lx:ln x≤17179869183:=a8 hx.ln la
 refine bN Tryz.func41 J (n:=8) J (bq J) (args:= [O sa Aa na ca]) (bG [(0,O sa Aa na ca)] ⟨rfl,AT⟩ (sr (bx (a5 sa Aa na ca) (Ext.refl w) J J J fun W _ p _ _ V=>(bL [F0,S0] V p.lt (fun _=>by kernel_rfl) J fun _ _ G D _ X h=>(a7 (sr (pf W 0 J (bB J J (bM fM (p.ext X) J) (pf W 1 J (bB J J (bM dS (p.ext X) J) ?_))))))))))
 have Y:ln (sg sa (Int.natAbs x))≤17179869183:=by rw [iQ];exact Lx
 refine cl (vs:= (a5 sa Aa na ca)) h (jD h.size (hx.ext h).wi (aK la J)) J (by kernel_rfl) fun _ _ H F L=>?_
 obtain⟨q,o,r,f,rfl,I⟩:=H
 have e:=(G.ext F)
 refine so aA e (a5 q o r f) L D J J J J fun _ E U M=>(a7 (aV (aU [O q o r f] J ⟨⟨_,rfl,bH aA E (a5 q o r f) J (bq J) rfl⟩,AT⟩ ?_)))
 exact⟨_,rfl,⟨_,_,_,_,rfl,((I.updT e U)).cast (hx.sg)⟩,M⟩
theorem KL (hb:b≤w.heap.size)(hx:Zi w sa Aa na ca x)(la:na≤17179869183):aP aN 48 #[O sa Aa na ca] w (Gv w (ZR b ((Int.natAbs x:Int)))):=by
 refine Calls.mono (R:=Gv w (ZR w.heap.size ((Int.natAbs x:Int)))) ?_ (Gv.imp (ZR.imp hb))
 have Lx:ln x≤17179869183:=a8 hx.ln la
 refine bN Tryz.func48 J (n:=6) J (bq J) (args:= [O sa Aa na ca]) (bG [(0,O sa Aa na ca)] ⟨rfl,AT⟩ (sr (bx (a5 sa Aa na ca) (Ext.refl w) J J J fun X _ r _ _ V=>(bL [F0,S0] V r.lt (fun _=>by kernel_rfl) J fun _ _ G D _ Y h=>(a7 (sr (pf X 1 J (bB J J (bM dS (r.ext Y) J) ?_))))))))
 have W:ln (sg false (Int.natAbs x))≤17179869183:=by rw [iQ];exact Lx
 refine cl (vs:= [F0,we Aa na ca]) h (jD h.size (hx.ext h).wi (aK la J)) J (by kernel_rfl) fun _ _ H F L=>?_
 obtain⟨p,o,q,f,rfl,I⟩:=H
 have e:=(G.ext F)
 refine so aA e (a5 p o q f) L D J J J J fun _ E U M=>(a7 (aV (aU [O p o q f] J ⟨⟨_,rfl,bH aA E (a5 p o q f) J (bq J) rfl⟩,AT⟩ ?_)))
 exact⟨_,rfl,⟨_,_,_,_,rfl,((I.updT e U)).cast (J)⟩,M⟩
theorem eV (hx:Zi w sa Aa na ca x)(la:na≤17179869183):aP aN 44 #[O sa Aa na ca] w (Gv w (Is (no (bE x 0)))):=by
 have Lx:ln x≤17179869183:=a8 hx.ln la
 refine bN Tryz.func44 J (n:=12) J (bq J) (args:= [O sa Aa na ca]) (bG [(0,O sa Aa na ca)] ⟨rfl,AT⟩ (sr (bx (a5 sa Aa na ca) (Ext.refl w) J J J fun _ _ H _ _ p=>(mv 1 J (a7 (sr (lo aA H (a5 sa Aa na ca) J J J (cl (vs:= [O sa Aa na ca]) p (D4 p.size (hx.ext p) (aK la J)) J (by kernel_rfl) fun _ _ r8 e7 X=>?_))))))))
 obtain⟨M,Y,G,Z,rfl,U⟩:=r8
 refine bL [F0,S0] X (H.ext e7).lt (fun _=>by kernel_rfl) J fun o _ h L _ q V=>(so aA h (a5 M Y G Z) V L J J J J fun _ f E r=>(a7 (aD (aD ?_))))
 by_cases F:x<0
 ·obtain rfl:M=true:=by rw [(((U.ext q).updT h E)).sgn];exact decide_eq_true F
  refine aF (pf o 0 J (bB J J (bM fM f J) (a7 (aW J (sr (mv 1 J (a7 (aV (bR (aU [no (-1)] J ⟨rfl,AT⟩ ?_))))))))))
  exact⟨_,rfl,(show (no (-1):aM)=dP .i64 (bE x 0) by rw [xJ F]),r⟩
 ·obtain rfl:M=false:=by rw [(((U.ext q).updT h E)).sgn];exact decide_eq_false F
  have I:G=ln x:=(((U.ext q).updT h E)).len
  by_cases D:x=0
  ·have W:G=0:=by rw [I,D];rfl
   refine aF (pf o 0 J (bB J J (bM fM f J) (a7 (aQ J (aY (aO (aD (sr (pf o 1 J (bB J J (bM dS f J) (pu (v:= no G) J (aI J J J false (oN) (aX ?_)))))))))))))
   refine aO (aQ J (aY (aO (sr (mv 1 J (a7 (aV (aU [I0] J ⟨rfl,AT⟩ ?_))))))))
   exact⟨_,rfl,(show (no 0:aM)=dP .i64 (bE x 0) by rw [QM D]),r⟩
  ·have W:G≠0:=fun e=>D (V9 (by rw [←I,e]))
   refine aF (pf o 0 J (bB J J (bM fM f J) (a7 (aQ J (aY (aO (aD (sr (pf o 1 J (bB J J (bM dS f J) (pu (v:= no G) J (aI J J J true (vK (by omega)) (aX ?_)))))))))))))
   refine aO (aW J (sr (mv 1 J (a7 (aV (bR (aU [no 1] J ⟨rfl,AT⟩ ?_)))))))
   exact⟨_,rfl,(show (no 1:aM)=dP .i64 (bE x 0) by rw [xH (by omega)]),r⟩
theorem WQ {nb:Nat}(hx:Zi w sa Aa na ca x)(la:na≤17179869183)(hy:Zi w sb Ab nb cb y)(lb:nb≤17179869183):aP aN 46 #[O sa Aa na ca,O sb Ab nb cb] w (Gv w (Is (no (dY (Int.natAbs x) (Int.natAbs y))))):=by
 have Lx:ln x≤17179869183:=a8 hx.ln la
 have Ly:ln y≤17179869183:=a8 hy.ln lb
 refine bN Tryz.func46 J (n:=10) J (bq J) (args:= [O sa Aa na ca,O sb Ab nb cb]) (bG [(0,O sa Aa na ca),(1,O sb Ab nb cb)] ⟨rfl,rfl,AT⟩ (sr (bx (a5 sa Aa na ca) (Ext.refl w) J J J fun r _ f _ _ q=>(fG (a5 sb Ab nb cb) q f.lt J J J fun D _ h _ _ E e=>(mv 1 J (a7 (sr (pf r 1 J (bB J J (bM dS (f.ext E) J) (pf D 1 J (bB J J (bM dS h J) (cl (vs:= [we Aa na ca,we Ab nb cb]) e (vO (hx.ext e).wi (aK la J) (hy.ext e).wi (aK lb J)) J (by kernel_rfl) fun _ _ o _ p=>?_))))))))))))
 obtain rfl:=o
 refine mv 1 J (a7 (aV (aU [no (dY (Int.natAbs x) (Int.natAbs y))] J ⟨rfl,AT⟩ ?_)))
 exact⟨_,rfl,rfl,p⟩
theorem kS {nb:Nat}(hx:Zi w sa Aa na ca x)(la:na≤17179869183)(hy:Zi w sb Ab nb cb y)(lb:nb≤17179869183):aP aN 45 #[O sa Aa na ca,O sb Ab nb cb] w (Gv w (Is (no (bE x y)))):=by
 have Lx:ln x≤17179869183:=a8 hx.ln la
 have Ly:ln y≤17179869183:=a8 hy.ln lb
 refine bN Tryz.func45 J (n:=22) J (bq J) (args:= [O sa Aa na ca,O sb Ab nb cb]) (bG [(0,O sa Aa na ca),(1,O sb Ab nb cb)] ⟨rfl,rfl,AT⟩ (sr (bx (a5 sa Aa na ca) (Ext.refl w) J J J fun _ _ o _ _ I=>(fG (a5 sb Ab nb cb) I o.lt J J J fun _ _ q _ _ L D=>(mv 1 J (a7 (sr (lo aA (o.ext L) (a5 sa Aa na ca) J J J (cl (vs:= [O sa Aa na ca]) D (eV (hx.ext D) (aK la J)) J (by kernel_rfl) fun _ _ G f r=>?_)))))))))
 obtain rfl:=G
 refine mv 1 J (a7 (sr (lo aA (q.ext f) (a5 sb Ab nb cb) J J J (cl (vs:= [O sb Ab nb cb]) r (eV (hy.ext r) (aK lb J)) J (by kernel_rfl) fun _ _ F p e=>?_))))
 obtain rfl:=F
 refine mv 1 J (a7 (aD (aD ?_)))
 by_cases hs:bE x 0=bE y 0
 ·refine aF (mv 2 J (aI J J J false (lI hs) (a7 (aQ J (aY (aO (sr (mv 1 J (lo aA (o.ext (L.t (f.t p))) (a5 sa Aa na ca) J J J (lo aA (q.ext (f.t p)) (a5 sb Ab nb cb) J J J (cl (vs:= [O sa Aa na ca,O sb Ab nb cb]) e (WQ (hx.ext e) (aK la J) (hy.ext e) (aK lb J)) J (by kernel_rfl) fun _ _ H _ E=>?_)))))))))))
  obtain rfl:=H
  refine aR J J J (bE x y) (vX (QN hs) (GA _ _).1 (GA _ _).2) (mv 1 J (a7 (aV (aU [no (bE x y)] J ⟨rfl,AT⟩ ?_))))
  exact⟨_,rfl,rfl,E⟩
 ·by_cases hl:bE x 0<bE y 0
  ·refine aF (mv 2 J (aI J J J true (nF (h:=hs)) (a7 (aW J (aD (sr (mv 2 J (aI J J J true (vE hl) (a7 (aW J (sr (mv 1 J (aX ?_)))))))))))))
   refine aO (aV (bR (bR (aU [no (-1)] J ⟨rfl,AT⟩ ?_))))
   exact⟨_,rfl,(show (no (-1):aM)=dP .i64 (bE x y) by rw [QQ hl]),e⟩
  ·refine aF (mv 2 J (aI J J J true (nF (h:=hs)) (a7 (aW J (aD (sr (mv 2 J (aI J J J false (rD) (a7 (aQ J (aY (aO (aD ?_)))))))))))))
   refine aF (mv 1 J (a7 (aV (bR (aU [no 1] J ⟨rfl,AT⟩ ?_)))))
   exact⟨_,rfl,(show (no 1:aM)=dP .i64 (bE x y) by rw [QR (by omega)]),e⟩
theorem oO {nb:Nat}(hb:b≤w.heap.size)(hx:Zi w sa Aa na ca x)(la:na≤17179869183)(hy:Zi w sb Ab nb cb y)(lb:nb≤17179869183):aP aN 49 #[O sa Aa na ca,O sb Ab nb cb] w (Gv w (ZR b (x+y))):=by
 refine Calls.mono (R:=Gv w (ZR w.heap.size (x+y))) ?_ (Gv.imp (ZR.imp hb))
 have Lx:ln x≤17179869183:=a8 hx.ln la
 have Ly:ln y≤17179869183:=a8 hy.ln lb
 refine bN Tryz.func49 J (n:=54) J (bq J) (args:= [O sa Aa na ca,O sb Ab nb cb]) (bG [(0,O sa Aa na ca),(1,O sb Ab nb cb)] ⟨rfl,rfl,AT⟩ (sr (bx (a5 sa Aa na ca) (Ext.refl w) J J J fun H _ o _ _ fw=>(fG (a5 sb Ab nb cb) fw o.lt J J J fun L _ p _ _ I ij=>(bL [F0,S0] ij p.lt (fun _=>by kernel_rfl) J fun _ _ E D _ e h=>(a7 (aD (aD ?_))))))))
 by_cases ah:sa=true
 ·subst ah
  by_cases F:sb=true
  ·subst F
   refine aF (pf H 0 J (bB J J (bM fM (o.ext (I.t e)) J) (pf L 0 J (bB J J (bM fM (p.ext e) J) (pu (v:= AI) J (a7 (aW J (sr (pf H 1 J (bB J J (bM dS (o.ext (I.t e)) J) (pf L 1 J (bB J J (bM dS (p.ext e) J) ?_))))))))))))
   have en:(wd ((Int.natAbs x)+(Int.natAbs y))).length≤17179869184:=a8 (vG _ _) (Nat.succ_le_succ (Nat.max_le.2 ⟨a8 Lx (by decide),a8 Ly (by decide)⟩))
   refine cl (vs:= [we Aa na ca,we Ab nb cb]) h (KO h.size (hx.ext h).wi (aK la J) (hy.ext h).wi (aK lb J)) J (by kernel_rfl) fun _ _ fq fh f=>?_
   obtain⟨ie,gg,fm,rfl,gb,fy⟩:=fq
   refine mv 1 J (a7 (sr (pf H 0 J (bB J J (bM fM (o.ext (I.t (e.t fh))) J) (mv 1 J ?_)))))
   have iz:ln (sg true ((Int.natAbs x)+(Int.natAbs y)))≤17179869184:=by rw [iQ];exact en
   refine cl (vs:= (a5 true ie gg fm)) f (jD f.size fy.wi (by rw [gb];exact a8 en (by decide))) J (by kernel_rfl) fun _ _ iq gx q=>?_
   obtain⟨bj,bp,aw,ci,rfl,fo⟩:=iq
   have aq:=(E.ext (fh.t gx))
   refine so aA aq (a5 bj bp aw ci) q D J J J J fun _ de gj r=>(a7 (aV (bR (aU [O bj bp aw ci] J ⟨⟨_,rfl,bH aA de (a5 bj bp aw ci) J (bq J) rfl⟩,AT⟩ ?_))))
   exact⟨_,rfl,⟨_,_,_,_,rfl,((fo.updT aq gj)).cast (by rw [BJ,hx.sg,hy.sg])⟩,r⟩
  ·replace F:sb=false:=by simpa using F
   subst F
   refine aF (pf H 0 J (bB J J (bM fM (o.ext (I.t e)) J) (pf L 0 J (bB J J (bM fM (p.ext e) J) (pu (v:= AS) J (a7 (aQ J (aY (aO (aD (aD ?_)))))))))))
   by_cases G:Int.natAbs y≤Int.natAbs x
   ·refine aF (pf H 1 J (bB J J (bM dS (o.ext (I.t e)) J) (pf L 1 J (bB J J (bM dS (p.ext e) J) (cl (vs:= [we Aa na ca,we Ab nb cb]) h (vO (hx.ext h).wi (aK la J) (hy.ext h).wi (aK lb J)) J (by kernel_rfl) fun _ _ ik ak f=>?_)))))
    obtain rfl:=ik
    refine aI J J J true (LO G) (a7 (aW J (sr (pf H 1 J (bB J J (bM dS (o.ext (I.t (e.t ak))) J) (pf L 1 J (bB J J (bM dS (p.ext (e.t ak)) J) ?_)))))))
    have ew:(wd ((Int.natAbs x)-(Int.natAbs y))).length≤17179869183:=a8 (gK (Nat.sub_le _ _)) Lx
    refine cl (vs:= [we Aa na ca,we Ab nb cb]) f (yM f.size (hx.ext f).wi (aK la J) (hy.ext f).wi (aK lb J) G) J (by kernel_rfl) fun _ _ gi el q=>?_
    obtain⟨_,_,rfl,⟨da,fc,dh,rfl,ic,fk⟩,rfl⟩:=gi
    refine mv 1 J (pu (v:= we da fc dh) J (pu (v:= no 0) J (mv 2 J (a7 (sr (pf H 0 J (bB J J (bM fM (o.ext (I.t (e.t (ak.t el)))) J) (mv 1 J ?_))))))))
    have jc:ln (sg true ((Int.natAbs x)-(Int.natAbs y)))≤17179869183:=by rw [iQ];exact ew
    refine cl (vs:= (a5 true da fc dh)) q (jD q.size fk.wi (by rw [ic];exact a8 ew (by decide))) J (by kernel_rfl) fun _ _ gf gk r=>?_
    obtain⟨az,ba,ck,bd,rfl,gy⟩:=gf
    have ap:=(E.ext (ak.t (el.t gk)))
    refine so aA ap (a5 az ba ck bd) r D J J J J fun _ cm ig M=>(a7 (aV (bR (aU [O az ba ck bd] J ⟨⟨_,rfl,bH aA cm (a5 az ba ck bd) J (bq J) rfl⟩,AT⟩ ?_))))
    exact⟨_,rfl,⟨_,_,_,_,rfl,((gy.updT ap ig)).cast (by rw [sV G];show sg true _+sg false _=_;rw [hx.sg,hy.sg])⟩,M⟩
   ·refine aF (pf H 1 J (bB J J (bM dS (o.ext (I.t e)) J) (pf L 1 J (bB J J (bM dS (p.ext e) J) (cl (vs:= [we Aa na ca,we Ab nb cb]) h (vO (hx.ext h).wi (aK la J) (hy.ext h).wi (aK lb J)) J (by kernel_rfl) fun _ _ ga ai f=>?_)))))
    obtain rfl:=ga
    refine aI J J J false (LP G) (a7 (aQ J (aY (aO (sr (pf L 1 J (bB J J (bM dS (p.ext (e.t ai)) J) (pf H 1 J (bB J J (bM dS (o.ext (I.t (e.t ai))) J) ?_)))))))))
    have ez:(wd ((Int.natAbs y)-(Int.natAbs x))).length≤17179869183:=a8 (gK (Nat.sub_le _ _)) Ly
    refine cl (vs:= [we Ab nb cb,we Aa na ca]) f (yM f.size (hy.ext f).wi (aK lb J) (hx.ext f).wi (aK la J) (by omega)) J (by kernel_rfl) fun _ _ gn fg q=>?_
    obtain⟨_,_,rfl,⟨ct,dz,eh,rfl,gc,ib⟩,rfl⟩:=gn
    refine mv 1 J (pu (v:= we ct dz eh) J (pu (v:= no 0) J (mv 2 J (a7 (sr (pf L 0 J (bB J J (bM fM (p.ext (e.t (ai.t fg))) J) (mv 1 J ?_))))))))
    have jb:ln (sg false ((Int.natAbs y)-(Int.natAbs x)))≤17179869183:=by rw [iQ];exact ez
    refine cl (vs:= [F0,we ct dz eh]) q (jD q.size ib.wi (by rw [gc];exact a8 ez (by decide))) J (by kernel_rfl) fun _ _ io fv r=>?_
    obtain⟨ch,bh,cj,bf,rfl,il⟩:=io
    have ar:=(E.ext (ai.t (fg.t fv)))
    refine so aA ar (a5 ch bh cj bf) r D J J J J fun _ dl ir M=>(a7 (aV (aU [O ch bh cj bf] J ⟨⟨_,rfl,bH aA dl (a5 ch bh cj bf) J (bq J) rfl⟩,AT⟩ ?_)))
    exact⟨_,rfl,⟨_,_,_,_,rfl,((il.updT ar ir)).cast (by rw [sV (by omega)];show sg false _+sg true _=_;rw [hx.sg,hy.sg,Int.add_comm])⟩,M⟩
 ·replace ah:sa=false:=by simpa using ah
  subst ah
  by_cases F:sb=true
  ·subst F
   refine aF (pf H 0 J (bB J J (bM fM (o.ext (I.t e)) J) (pf L 0 J (bB J J (bM fM (p.ext e) J) (pu (v:= AS) J (a7 (aQ J (aY (aO (aD (aD ?_)))))))))))
   by_cases G:Int.natAbs y≤Int.natAbs x
   ·refine aF (pf H 1 J (bB J J (bM dS (o.ext (I.t e)) J) (pf L 1 J (bB J J (bM dS (p.ext e) J) (cl (vs:= [we Aa na ca,we Ab nb cb]) h (vO (hx.ext h).wi (aK la J) (hy.ext h).wi (aK lb J)) J (by kernel_rfl) fun _ _ iu am f=>?_)))))
    obtain rfl:=iu
    refine aI J J J true (LO G) (a7 (aW J (sr (pf H 1 J (bB J J (bM dS (o.ext (I.t (e.t am))) J) (pf L 1 J (bB J J (bM dS (p.ext (e.t am)) J) ?_)))))))
    have cz:(wd ((Int.natAbs x)-(Int.natAbs y))).length≤17179869183:=a8 (gK (Nat.sub_le _ _)) Lx
    refine cl (vs:= [we Aa na ca,we Ab nb cb]) f (yM f.size (hx.ext f).wi (aK la J) (hy.ext f).wi (aK lb J) G) J (by kernel_rfl) fun _ _ fp dx q=>?_
    obtain⟨_,_,rfl,⟨fe,dg,fb,rfl,gr,ge⟩,rfl⟩:=fp
    refine mv 1 J (pu (v:= we fe dg fb) J (pu (v:= no 0) J (mv 2 J (a7 (sr (pf H 0 J (bB J J (bM fM (o.ext (I.t (e.t (am.t dx)))) J) (mv 1 J ?_))))))))
    have ja:ln (sg false ((Int.natAbs x)-(Int.natAbs y)))≤17179869183:=by rw [iQ];exact cz
    refine cl (vs:= [F0,we fe dg fb]) q (jD q.size ge.wi (by rw [gr];exact a8 cz (by decide))) J (by kernel_rfl) fun _ _ iw fx r=>?_
    obtain⟨bu,bo,bi,bw,rfl,iv⟩:=iw
    have ao:=(E.ext (am.t (dx.t fx)))
    refine so aA ao (a5 bu bo bi bw) r D J J J J fun _ du ft M=>(a7 (aV (bR (aU [O bu bo bi bw] J ⟨⟨_,rfl,bH aA du (a5 bu bo bi bw) J (bq J) rfl⟩,AT⟩ ?_))))
    exact⟨_,rfl,⟨_,_,_,_,rfl,((iv.updT ao ft)).cast (by rw [sV G];show sg false _+sg true _=_;rw [hx.sg,hy.sg])⟩,M⟩
   ·refine aF (pf H 1 J (bB J J (bM dS (o.ext (I.t e)) J) (pf L 1 J (bB J J (bM dS (p.ext e) J) (cl (vs:= [we Aa na ca,we Ab nb cb]) h (vO (hx.ext h).wi (aK la J) (hy.ext h).wi (aK lb J)) J (by kernel_rfl) fun _ _ ia aj f=>?_)))))
    obtain rfl:=ia
    refine aI J J J false (LP G) (a7 (aQ J (aY (aO (sr (pf L 1 J (bB J J (bM dS (p.ext (e.t aj)) J) (pf H 1 J (bB J J (bM dS (o.ext (I.t (e.t aj))) J) ?_)))))))))
    have em:(wd ((Int.natAbs y)-(Int.natAbs x))).length≤17179869183:=a8 (gK (Nat.sub_le _ _)) Ly
    refine cl (vs:= [we Ab nb cb,we Aa na ca]) f (yM f.size (hy.ext f).wi (aK lb J) (hx.ext f).wi (aK la J) (by omega)) J (by kernel_rfl) fun _ _ fz fa q=>?_
    obtain⟨_,_,rfl,⟨fj,dw,ey,rfl,go,im⟩,rfl⟩:=fz
    refine mv 1 J (pu (v:= we fj dw ey) J (pu (v:= no 0) J (mv 2 J (a7 (sr (pf L 0 J (bB J J (bM fM (p.ext (e.t (aj.t fa))) J) (mv 1 J ?_))))))))
    have iy:ln (sg true ((Int.natAbs y)-(Int.natAbs x)))≤17179869183:=by rw [iQ];exact em
    refine cl (vs:= (a5 true fj dw ey)) q (jD q.size im.wi (by rw [go];exact a8 em (by decide))) J (by kernel_rfl) fun _ _ eg dt r=>?_
    obtain⟨ab,Z,V,ae,rfl,dr⟩:=eg
    have Y:=(E.ext (aj.t (fa.t dt)))
    refine so aA Y (a5 ab Z V ae) r D J J J J fun _ bg fd M=>(a7 (aV (aU [O ab Z V ae] J ⟨⟨_,rfl,bH aA bg (a5 ab Z V ae) J (bq J) rfl⟩,AT⟩ ?_)))
    exact⟨_,rfl,⟨_,_,_,_,rfl,((dr.updT Y fd)).cast (by rw [sV (by omega)];show sg true _+sg false _=_;rw [hx.sg,hy.sg,Int.add_comm])⟩,M⟩
  ·replace F:sb=false:=by simpa using F
   subst F
   refine aF (pf H 0 J (bB J J (bM fM (o.ext (I.t e)) J) (pf L 0 J (bB J J (bM fM (p.ext e) J) (pu (v:= AI) J (a7 (aW J (sr (pf H 1 J (bB J J (bM dS (o.ext (I.t e)) J) (pf L 1 J (bB J J (bM dS (p.ext e) J) ?_))))))))))))
   have av:(wd ((Int.natAbs x)+(Int.natAbs y))).length≤17179869184:=a8 (vG _ _) (Nat.succ_le_succ (Nat.max_le.2 ⟨a8 Lx (by decide),a8 Ly (by decide)⟩))
   refine cl (vs:= [we Aa na ca,we Ab nb cb]) h (KO h.size (hx.ext h).wi (aK la J) (hy.ext h).wi (aK lb J)) J (by kernel_rfl) fun _ _ ej au f=>?_
   obtain⟨ef,cp,dm,rfl,ei,dy⟩:=ej
   refine mv 1 J (a7 (sr (pf H 0 J (bB J J (bM fM (o.ext (I.t (e.t au))) J) (mv 1 J ?_)))))
   have ix:ln (sg false ((Int.natAbs x)+(Int.natAbs y)))≤17179869184:=by rw [iQ];exact av
   refine cl (vs:= [F0,we ef cp dm]) f (jD f.size dy.wi (by rw [ei];exact a8 av (by decide))) J (by kernel_rfl) fun _ _ fi df q=>?_
   obtain⟨aa,W,X,U,rfl,cv⟩:=fi
   have ag:=(E.ext (au.t df))
   refine so aA ag (a5 aa W X U) q D J J J J fun _ bm cu r=>(a7 (aV (bR (aU [O aa W X U] J ⟨⟨_,rfl,bH aA bm (a5 aa W X U) J (bq J) rfl⟩,AT⟩ ?_))))
   exact⟨_,rfl,⟨_,_,_,_,rfl,((cv.updT ag cu)).cast (by rw [BJ,hx.sg,hy.sg])⟩,r⟩
theorem yK {nb:Nat}(hb:b≤w.heap.size)(hx:Zi w sa Aa na ca x)(la:na≤17179869183)(hy:Zi w sb Ab nb cb y)(lb:nb≤17179869183):aP aN 50 #[O sa Aa na ca,O sb Ab nb cb] w (Gv w (ZR b (x-y))):=by
 refine Calls.mono (R:=Gv w (ZR w.heap.size (x-y))) ?_ (Gv.imp (ZR.imp hb))
 have Lx:ln x≤17179869183:=a8 hx.ln la
 have Ly:ln y≤17179869183:=a8 hy.ln lb
 refine bN Tryz.func50 J (n:=13) J (bq J) (args:= [O sa Aa na ca,O sb Ab nb cb]) (bG [(0,O sa Aa na ca),(1,O sb Ab nb cb)] ⟨rfl,rfl,AT⟩ (sr (bx (a5 sa Aa na ca) (Ext.refl w) J J J fun _ _ E _ _ Y=>(fG (a5 sb Ab nb cb) Y E.lt J J J fun Z _ r _ _ e8 X=>(bL [F0,S0] X r.lt (fun _=>by kernel_rfl) J fun _ _ G F _ p e=>(a7 (sr (lo aA (E.ext (e8.t p)) (a5 sa Aa na ca) J J J (pf Z 0 J (bB J J (bM fM (r.ext p) J) (pu (v:= .bool (!sb)) J (pf Z 1 J (bB J J (bM dS (r.ext p) J) ?_)))))))))))))
 refine pu (v:= .agg #[.bool (!sb),we Ab nb cb]) J ?_
 have aa:ln (x+(-y))≤17179869184:=a8 (dN Lx (show ln (-y)≤17179869183 by rw [g0];exact Ly)) (by decide)
 refine cl (vs:= [O sa Aa na ca,.agg #[.bool (!sb),we Ab nb cb]]) e (oO e.size (hx.ext e) (aK la J) (hy.ext e).not (aK lb J)) J (by kernel_rfl) fun _ _ W V M=>?_
 obtain⟨h,D,q,o,rfl,L⟩:=W
 have f:=(G.ext V)
 refine so aA f (a5 h D q o) M F J J J J fun _ H U I=>(a7 (aV (aU [O h D q o] J ⟨⟨_,rfl,bH aA H (a5 h D q o) J (bq J) rfl⟩,AT⟩ ?_)))
 exact⟨_,rfl,⟨_,_,_,_,rfl,((L.updT f U)).cast (by omega)⟩,I⟩
theorem pS {nb:Nat}(hb:b≤w.heap.size)(hx:Zi w sa Aa na ca x)(la:na≤17179869183)(hy:Zi w sb Ab nb cb y)(lb:nb≤17179869183):aP aN 51 #[O sa Aa na ca,O sb Ab nb cb] w (Gv w (ZR b (x*y))):=by
 refine Calls.mono (R:=Gv w (ZR w.heap.size (x*y))) ?_ (Gv.imp (ZR.imp hb))
 have Lx:ln x≤17179869183:=a8 hx.ln la
 have Ly:ln y≤17179869183:=a8 hy.ln lb
 refine bN Tryz.func51 J (n:=18) J (bq J) (args:= [O sa Aa na ca,O sb Ab nb cb]) (bG [(0,O sa Aa na ca),(1,O sb Ab nb cb)] ⟨rfl,rfl,AT⟩ (sr (bx (a5 sa Aa na ca) (Ext.refl w) J J J fun g1 _ q _ _ ak=>(fG (a5 sb Ab nb cb) ak q.lt J J J fun g6 _ E _ _ e8 aj=>(bL [F0,S0] aj E.lt (fun _=>by kernel_rfl) J fun _ _ I G _ f e=>(a7 (sr (pf g1 1 J (bB J J (bM dS (q.ext (e8.t f)) J) (pf g6 1 J (bB J J (bM dS (E.ext f) J) ?_)))))))))))
 have M:(wd ((Int.natAbs x)*(Int.natAbs y))).length≤34359738366:=a8 (vF _ _) (Nat.add_le_add Lx Ly)
 refine cl (vs:= [we Aa na ca,we Ab nb cb]) e (WV e.size (hx.ext e).wi (aK la J) (hy.ext e).wi (aK lb J)) J (by kernel_rfl) fun _ _ ai D H=>?_
 obtain⟨ae,ab,X,rfl,Y,V⟩:=ai
 refine mv 1 J (a7 (sr (pf g1 0 J (bB J J (bM fM (q.ext (e8.t (f.t D))) J) (pf g6 0 J (bB J J (bM fM (E.ext (f.t D)) J) (pu (v:= .bool (!(sa==sb))) J (mv 1 J ?_))))))))
 have aq:ln (sg (!(sa==sb)) ((Int.natAbs x)*(Int.natAbs y)))≤34359738366:=by rw [iQ];exact M
 refine cl (vs:= [.bool (!(sa==sb)),we ae ab X]) H (jD H.size V.wi (by rw [Y];exact a8 M (by decide))) J (by kernel_rfl) fun _ _ W Z U=>?_
 obtain⟨o,F,p,r,rfl,aa⟩:=W
 have h:=(I.ext (D.t Z))
 refine so aA h (a5 o F p r) U G J J J J fun _ L ag ah=>(a7 (aV (aU [O o F p r] J ⟨⟨_,rfl,bH aA L (a5 o F p r) J (bq J) rfl⟩,AT⟩ ?_)))
 exact⟨_,rfl,⟨_,_,_,_,rfl,((aa.updT h ag)).cast ((G7 _ _ _ _).trans (by rw [hx.sg,hy.sg]))⟩,ah⟩
theorem KK {nb:Nat}{nd:Nat}(hb:b≤w.heap.size)(hx:Zi w sa Aa na ca x)(la:na≤8589934591)(hy:Zi w sb Ab nb cb y)(lb:nb≤8589934591)(hz:Zi w sd Ad nd cd z)(ld:nd≤8589934591):aP aN 52 #[O sa Aa na ca,O sb Ab nb cb,O sd Ad nd cd] w (Gv w (ZR b (x*y+z))):=by
 refine Calls.mono (R:=Gv w (ZR w.heap.size (x*y+z))) ?_ (Gv.imp (ZR.imp hb))
 have Lx:ln x≤8589934591:=a8 hx.ln la
 have Ly:ln y≤8589934591:=a8 hy.ln lb
 have Lz:ln z≤8589934591:=a8 hz.ln ld
 refine bN Tryz.func52 J (n:=14) J (bq J) (args:= [O sa Aa na ca,O sb Ab nb cb,O sd Ad nd cd]) (bG [(0,O sa Aa na ca),(1,O sb Ab nb cb),(2,O sd Ad nd cd)] ⟨rfl,rfl,rfl,AT⟩ (sr (bx (a5 sa Aa na ca) (Ext.refl w) J J J fun _ _ Y _ _ au=>(fG (a5 sb Ab nb cb) au Y.lt J J J fun _ _ Z _ _ e8 ar=>(fG (a5 sd Ad nd cd) ar Z.lt J J J fun _ _ h _ _ ah ak=>(bL [F0,S0] ak h.lt (fun _=>by kernel_rfl) J fun _ _ o ae _ L e=>(a7 (sr (lo aA (Y.ext (e8.t (ah.t L))) (a5 sa Aa na ca) J J J (lo aA (Z.ext (ah.t L)) (a5 sb Ab nb cb) J J J ?_))))))))))
 have ai:ln (x*y)≤17179869182:=a8 (cK Lx Ly) (by decide)
 refine cl (vs:= [O sa Aa na ca,O sb Ab nb cb]) e (pS e.size (hx.ext e) (aK la J) (hy.ext e) (aK lb J)) J (by kernel_rfl) fun _ _ am E av=>?_
 obtain⟨I,H,U,V,rfl,X⟩:=am
 refine bL [F0,S0] av (o.ext E).lt (fun _=>by kernel_rfl) J fun _ _ p ab _ M az=>(so aA p (a5 I H U V) az ab J J J J fun _ ag F r=>(a7 (sr (lo aA ag (a5 I H U V) J J J (lo aA ((h.ext (L.t (E.t M))).vN F) (a5 sd Ad nd cd) J J J ?_)))))
 have bd:ln ((x*y)+z)≤17179869183:=a8 (dN ai Lz) (by decide)
 refine cl (vs:= [O I H U V,O sd Ad nd cd]) r (oO r.size ((X.ext M).updT p F).zi (X.le (aK ai J)) (hz.ext r) (aK ld J)) J (by kernel_rfl) fun _ _ aj ba ap=>?_
 obtain⟨q,D,W,G,rfl,aq⟩:=aj
 have f:=(((o.ext (E.t M)).vN F).ext ba)
 refine so aA f (a5 q D W G) ap ae J J J J fun _ aa ao aw=>(a7 (aV (aU [O q D W G] J ⟨⟨_,rfl,bH aA aa (a5 q D W G) J (bq J) rfl⟩,AT⟩ ?_)))
 exact⟨_,rfl,⟨_,_,_,_,rfl,((aq.updT f ao)).cast (J)⟩,aw⟩
theorem D2 {nb:Nat}(hb:b≤w.heap.size)(hx:Zi w sa Aa na ca x)(la:na≤17179869183)(hy:Zi w sb Ab nb cb y)(lb:nb≤17179869183)(h0:y≠0):aP aN 133 #[O sa Aa na ca,O sb Ab nb cb] w (Gv w (T3 (ZR b (x.tdiv y)) (ZR b (x.tmod y)) (Is (no 0)))):=by
 refine Calls.mono (R:=Gv w (T3 (ZR w.heap.size (x.tdiv y)) (ZR w.heap.size (x.tmod y)) (Is (no 0)))) ?_ (Gv.imp (T3.imp (ZR.imp hb) (ZR.imp hb) Is.imp))
 have Lx:ln x≤17179869183:=a8 hx.ln la
 have Ly:ln y≤17179869183:=a8 hy.ln lb
 have ci:Int.natAbs y≠0:=by omega
 refine bN Tryz.func133 J (n:=34) J (bq J) (args:= [O sa Aa na ca,O sb Ab nb cb]) (bG [(0,O sa Aa na ca),(1,O sb Ab nb cb)] ⟨rfl,rfl,AT⟩ (sr (bx (a5 sa Aa na ca) (Ext.refl w) J J J fun g1 _ Y _ _ ct=>(fG (a5 sb Ab nb cb) ct Y.lt J J J fun g6 _ ai _ _ e8 cp=>(bL [F0,S0] cp ai.lt (fun _=>by kernel_rfl) J fun _ _ aa ba _ L bw=>(bL [F0,S0] bw aa.lt (fun _=>by kernel_rfl) J fun _ _ bp bm _ o Z=>(mv 1 J (a7 (sr (pf g1 1 J (bB J J (bM dS (Y.ext (e8.t (L.t o))) J) (pf g6 1 J (bB J J (bM dS (ai.ext (L.t o)) J) ?_)))))))))))))
 have au:(wd ((Int.natAbs x)/(Int.natAbs y))).length≤17179869183:=a8 (gK (fH _ _)) Lx
 have ap:(wd ((Int.natAbs x)%(Int.natAbs y))).length≤17179869183:=a8 (gK (Nat.mod_le _ _)) Lx
 refine cl (vs:= [we Aa na ca,we Ab nb cb]) Z (WU Z.size (hx.ext Z).wi (aK la J) (hy.ext Z).wi (aK lb J) ci) J (by kernel_rfl) fun _ _ dl q ak=>?_
 obtain⟨_,_,_,rfl,⟨ag,ar,am,rfl,da,bu⟩,⟨ae,ao,aq,rfl,df,cm⟩,rfl⟩:=dl
 refine mv 1 J (pu (v:= we ag ar am) J (pu (v:= we ae ao aq) J (pu (v:= no 0) J (mv 3 J (a7 (aD (sr (mv 1 J (pu (v:= AS) J (a7 (aQ J (aY (aO ?_)))))))))))))
 refine aD ?_
 have dt:ln (sg (!(sa==sb)) ((Int.natAbs x)/(Int.natAbs y)))≤17179869183:=by rw [iQ];exact au
 have dr:ln (sg sa ((Int.natAbs x)%(Int.natAbs y)))≤17179869183:=by rw [iQ];exact ap
 refine dG bY 11 [] [Is (i5 g1 0),Is (.bool sa),Is (i5 g6 0),Is (.bool sb),Is (.bool (!(sa==sb))),Is (we ag ar am),ZR w.heap.size (sg (!(sa==sb)) ((Int.natAbs x)/(Int.natAbs y))),Is (i5 g1 0),Is (.bool sa),Is (we ae ao aq),ZR w.heap.size (sg sa ((Int.natAbs x)%(Int.natAbs y)))] [[],[0],[],[2],[1,3],[],[4,5],[],[7],[],[8,9]] [[],[0],[],[2],[0,1,2,3],[],[0,1,2,3,4,5],[],[7],[],[0,1,2,3,4,5,6,7,8,9],[0,1,2,3,4,5,6,7,8,9,10],[0,1,2,3,4,5,6,7,8,9,10,11],[0,1,2,3,4,5,6,7,8,9,10,11,12]] rfl
  (aH J J (aE J J ?_) (aH J J (aE J J ?_) (aH J J (aE J J ?_) (aH J J (aE J J ?_) (aH J J (aE J J ?_) (aH J J (aE J J ?_) (aH J J (aE J J ?_) (aH J J (aE J J ?_) (aH J J (aE J J ?_) (aH J J (aE J J ?_) (aH J J (aE J J ?_) d9))))))))))) ?_
 ·exact fun _ _=>aC (pf g1 0 J (aG J aL J))
 ·exact fun _ cj=>dk J J (aC (bB J J (bM fM (Y.ext (e8.t (L.t (o.t (q.t cj))))) J) (aG J aL J)))
 ·exact fun _ _=>aC (pf g6 0 J (aG J aL J))
 ·exact fun _ cz=>dk J J (aC (bB J J (bM fM (ai.ext (L.t (o.t (q.t cz)))) J) (aG J aL J)))
 ·exact fun _ _=>dk J J (dk J J (aC (pu (v:= .bool (!(sa==sb))) J (aG J aL J))))
 ·exact fun _ _=>aC (mv 1 J (aG J aL J))
 ·intro _ bd
  have h:=ak.trans bd
  refine dk J J (dk J J (aC ?_))
  have du:ln (sg (!(sa==sb)) ((Int.natAbs x)/(Int.natAbs y)))≤17179869183:=by rw [iQ];exact au
  refine cl (vs:= [.bool (!(sa==sb)),we ag ar am]) h (jD h.size (bu.ext bd).wi (by rw [da];exact a8 au (by decide))) J (by kernel_rfl) fun _ _ dg cu ah=>?_
  obtain⟨_,_,_,_,rfl,de⟩:=dg
  exact aG J cu ⟨_,_,_,_,rfl,de⟩
 ·exact fun _ _=>aC (pf g1 0 J (aG J aL J))
 ·exact fun _ ch=>dk J J (aC (bB J J (bM fM (Y.ext (e8.t (L.t (o.t (q.t ch))))) J) (aG J aL J)))
 ·exact fun _ _=>aC (mv 1 J (aG J aL J))
 ·intro _ bg
  have h:=ak.trans bg
  refine dk J J (dk J J (aC ?_))
  have dm:ln (sg sa ((Int.natAbs x)%(Int.natAbs y)))≤17179869183:=by rw [iQ];exact ap
  refine cl (vs:= (a5 sa ae ao aq)) h (jD h.size (cm.ext bg).wi (by rw [df];exact a8 ap (by decide))) J (by kernel_rfl) fun _ _ az bi ah=>?_
  obtain⟨_,_,_,_,rfl,bj⟩:=az
  exact aG J bi ⟨_,_,_,_,rfl,bj⟩
 ·intro _ r
  have h:=ak.trans r
  refine dk J J (dk J J (dk J J (dk J J (dk J J (dk J J (aT J J fun _ _ bf _ av=>?_))))))
  obtain⟨V,X,H,p,rfl,M⟩:=bf
  have M:=M.ext av
  refine dk J J (dk J J (dk J J (aT J J fun _ _ aw _ bh=>?_)))
  obtain⟨G,E,F,I,rfl,U⟩:=aw
  have U:=U.ext bh
  refine aC ?_
  have e:=(aa.ext (o.t (q.t r)))
  refine so aA e (a5 V X H p) h ba J J J J fun _ aj W ah=>?_
  have f:=((bp.ext (q.t r)).vN W)
  refine so aA f (a5 G E F I) ah bm J J J J fun _ ab D ck=>(mv 1 J (aX (dC (aO (aV (aU [O V X H p,O G E F I,I0] J ⟨⟨_,rfl,bH aA (aj.vN D) (a5 V X H p) J (bq J) rfl⟩,⟨_,rfl,bH aA ab (a5 G E F I) J (bq J) rfl⟩,rfl,AT⟩ ?_))))))
  exact⟨_,rfl,⟨_,_,_,rfl,⟨_,_,_,_,rfl,(((M.updT e W).updT f D)).cast ((BH _ _ _ _).trans (by rw [hx.sg,hy.sg]))⟩,⟨_,_,_,_,rfl,(((U.updT e W).updT f D)).cast ((G6 sa sb _ _).trans (by rw [hx.sg,hy.sg]))⟩,rfl⟩,ck⟩
theorem WN {nb:Nat}(hb:b≤w.heap.size)(hx:Zi w sa Aa na ca x)(la:na≤17179869183)(hy:Zi w sb Ab nb cb y)(lb:nb≤17179869183)(h0:y=0):aP aN 133 #[O sa Aa na ca,O sb Ab nb cb] w (Gv w (T3 (ZR b (0)) (ZR b (0)) (Is (no 4)))):=by
 refine Calls.mono (R:=Gv w (T3 (ZR w.heap.size (0)) (ZR w.heap.size (0)) (Is (no 4)))) ?_ (Gv.imp (T3.imp (ZR.imp hb) (ZR.imp hb) Is.imp))
 have Lx:ln x≤17179869183:=a8 hx.ln la
 have Ly:ln y≤17179869183:=a8 hy.ln lb
 have aa:Int.natAbs y=0:=by omega
 refine bN Tryz.func133 J (n:=34) J (bq J) (args:= [O sa Aa na ca,O sb Ab nb cb]) (bG [(0,O sa Aa na ca),(1,O sb Ab nb cb)] ⟨rfl,rfl,AT⟩ (sr (bx (a5 sa Aa na ca) (Ext.refl w) J J J fun g1 _ D _ _ ag=>(fG (a5 sb Ab nb cb) ag D.lt J J J fun g6 _ M _ _ e8 ae=>(bL [F0,S0] ae M.lt (fun _=>by kernel_rfl) J fun _ _ h E _ I Y=>(bL [F0,S0] Y h.lt (fun _=>by kernel_rfl) J fun _ _ U r _ p H=>(mv 1 J (a7 (sr (pf g1 1 J (bB J J (bM dS (D.ext (e8.t (I.t p))) J) (pf g6 1 J (bB J J (bM dS (M.ext (I.t p)) J) ?_)))))))))))))
 refine cl (vs:= [we Aa na ca,we Ab nb cb]) H (WT (hy.ext H).wi (aK lb J) aa) J (by kernel_rfl) fun _ V X F W=>?_
 obtain rfl:=X
 refine mv 1 J (pu (v:= we none 0 0) J (pu (v:= we none 0 0) J (pu (v:= no 4) J (mv 3 J (a7 (aD (sr (mv 1 J (pu (v:= AI) J (a7 (aW J (sr (pu (v:= .agg #[F0,S0]) J ?_)))))))))))))
 refine pu (v:= .agg #[F0,S0]) J ?_
 have e:=(h.ext (p.t F))
 refine so aA e [F0,S0] W E J J J J fun _ L q ab=>?_
 have f:=((U.ext F).vN q)
 refine so aA f [F0,S0] ab r J J J J fun _ G o Z=>(mv 1 J (a7 (aV (bR (aU [.agg #[F0,S0],.agg #[F0,S0],no 4] J ⟨⟨_,rfl,bH aA (L.vN o) [F0,S0] J (bq J) rfl⟩,⟨_,rfl,bH aA G [F0,S0] J (bq J) rfl⟩,rfl,AT⟩ ?_)))))
 exact⟨_,rfl,⟨_,_,_,rfl,⟨_,_,_,_,rfl,(((Zr.zero (w:=V) (base:=w.heap.size)).updT e q).updT f o)⟩,⟨_,_,_,_,rfl,(((Zr.zero (w:=V) (base:=w.heap.size)).updT e q).updT f o)⟩,rfl⟩,Z⟩
theorem P5:x.tmod y=0↔x.natAbs%y.natAbs=0:=by rw [←Int.natAbs_tmod,Int.natAbs_eq_zero]
theorem yL {nb:Nat}(hb:b≤w.heap.size)(hx:Zi w sa Aa na ca x)(la:na≤17179869183)(hy:Zi w sb Ab nb cb y)(lb:nb≤17179869183)(h0:y≠0)(h1:x.natAbs%y.natAbs=0):aP aN 136 #[O sa Aa na ca,O sb Ab nb cb] w (Gv w (T2 (ZR b (x.tdiv y)) (Is (no 0)))):=by
 refine Calls.mono (R:=Gv w (T2 (ZR w.heap.size (x.tdiv y)) (Is (no 0)))) ?_ (Gv.imp (T2.imp (ZR.imp hb) Is.imp))
 have Lx:ln x≤17179869183:=a8 hx.ln la
 have Ly:ln y≤17179869183:=a8 hy.ln lb
 refine bN Tryz.func136 J (n:=25) J (bq J) (args:= [O sa Aa na ca,O sb Ab nb cb]) (bG [(0,O sa Aa na ca),(1,O sb Ab nb cb)] ⟨rfl,rfl,AT⟩ (sr (bx (a5 sa Aa na ca) (Ext.refl w) J J J fun _ _ aa _ _ az=>(fG (a5 sb Ab nb cb) az aa.lt J J J fun _ _ ae _ _ e8 aw=>(bL [F0,S0] aw ae.lt (fun _=>by kernel_rfl) J fun _ _ V ab _ aj F=>(mv 1 J (a7 (sr (lo aA (aa.ext (e8.t aj)) (a5 sa Aa na ca) J J J (lo aA (ae.ext aj) (a5 sb Ab nb cb) J J J ?_))))))))))
 have bm:ln ((x).tdiv y)≤17179869183:=a8 (iW _ _) Lx
 have bi:ln ((x).tmod y)≤17179869183:=a8 (rG _ _) Lx
 refine cl (vs:= [O sa Aa na ca,O sb Ab nb cb]) F (D2 F.size (hx.ext F) (aK la J) (hy.ext F) (aK lb J) h0) J (by kernel_rfl) fun _ _ au Z aq=>?_
 obtain⟨_,_,_,rfl,⟨f,e,h,o,rfl,bg⟩,⟨I,G,L,r,rfl,am⟩,rfl⟩:=au
 refine mv 1 J (pu (v:= O f e h o) J (pu (v:= O I G L r) J (pu (v:= no 0) J (bL [F0,S0] aq (V.ext Z).lt (fun _=>by kernel_rfl) J fun _ _ M Y _ X ba=>(bL [F0,S0] ba M.lt (fun _=>by kernel_rfl) J fun _ _ ah ak _ H bj=>?_)))))
 have p:=(M.ext H)
 refine so aA p (a5 f e h o) bj Y J J J J fun _ ao D ar=>?_
 have q:=(ah.vN D)
 refine so aA q (a5 I G L r) ar ak J J J J fun _ ap E av=>(mv 1 J (a7 (aD (sr (mv 1 J (pu (v:= AS) J (a7 (aQ J (aY (aO (aD (sr (lo aA ap (a5 I G L r) J J J ?_)))))))))))))
 refine cl (vs:= [O I G L r]) av (eV (((am.ext (X.t H)).updT p D).updT q E).zi (am.le (aK bi J))) J (by kernel_rfl) fun _ _ bf W bh=>?_
 obtain rfl:=bf
 refine aI J J J false (lC (P5.2 h1)) (a7 (aQ J (aY (aO (sr (lo aA ((ao.vN E).ext W) (a5 f e h o) J J J ?_))))))
 have U:=((((V.ext (Z.t (X.t H))).vN D).vN E).ext W)
 refine so aA U (a5 f e h o) bh ab J J J J fun _ ai bd ag=>(mv 1 J (a7 (aV (aU [O f e h o,I0] J ⟨⟨_,rfl,bH aA ai (a5 f e h o) J (bq J) rfl⟩,rfl,AT⟩ ?_))))
 exact⟨_,rfl,⟨_,_,rfl,⟨_,_,_,_,rfl,(((((bg.ext (X.t H)).updT p D).updT q E).ext W).updT U bd)⟩,rfl⟩,ag⟩
theorem KI (hb:b≤w.heap.size):aP aN 42 #[no 1] w (Gv w (ZR b (1))):=by
 refine Calls.mono (R:=Gv w (ZR w.heap.size (1))) ?_ (Gv.imp (ZR.imp hb))
 refine bN Tryz.func42 J (n:=14) J (bq J) (args:= [no 1]) (bG [(0,no 1)] ⟨rfl,AT⟩ (sr (al [F0,S0] (Ext.refl w) (fun _=>by kernel_rfl) J fun _ _ V U _ H=>(a7 (aD (sr (mv 1 J (pu (v:= AS) J (a7 (aQ J (aY (aO (aD ?_)))))))))))))
 refine aF (mv 1 J (pu (v:= up 1) J (iO J J (k:=1) (e:=65) [up 1] (fun _=>by kernel_rfl) fun g6 _ D=>?_)))
 have o9:=O1.mk_ (x:=1) (b:=w.heap.size) D H.size
 have F:=D.ext
 have G:=H.trans F
 have Y:=rA o9 (by decide:1≤18446744073709551615) (by decide:1≠0)
 have q:=rL (by decide:1≤18446744073709551615) (by decide:1≠0)
 have aa:ln (sg false 1)≤1:=by rw [iQ];exact (Nat.le_of_eq q.symm)
 refine cl (vs:= [F0,we (some ⟨g6,0,none⟩) 1 1]) G (jD G.size Y.wi (by rw [q];exact a8 (Nat.le_of_eq q.symm) (by decide))) J (by kernel_rfl) fun _ _ L I X=>?_
 obtain⟨p,r,o,h,rfl,M⟩:=L
 have f:=(V.ext (F.t I))
 refine so aA f (a5 p r o h) X U J J J J fun _ E W Z=>(a7 (aV (aU [O p r o h] J ⟨⟨_,rfl,bH aA E (a5 p r o h) J (bq J) rfl⟩,AT⟩ ?_)))
 exact⟨_,rfl,⟨_,_,_,_,rfl,((M.updT f W)).cast (J)⟩,Z⟩
theorem a0k (hx:xs.length=n)(he:es.length=n)(hwx:Wfb 4294967296 xs)(hwe:Wfb 4294967296 es)(hj:j<n)(h:nb 4294967296 (xs.drop (j+1))=nb 4294967296 (es.drop (j+1)))(hd:xs.getD j 0<es.getD j 0):nb 4294967296 xs<nb 4294967296 es:=by
 have:=CU (s:=0) hx he (by omega) hwx hwe hj (by rw [eJ];exact h) (by rw [eJ];exact hd)
 rw [Nat.pow_zero,dV] at this
 omega
theorem a0m (hx:xs.length=n)(he:es.length=n)(hwx:Wfb 4294967296 xs)(hwe:Wfb 4294967296 es)(hj:j<n)(h:nb 4294967296 (xs.drop (j+1))=nb 4294967296 (es.drop (j+1)))(hd:¬xs.getD j 0<es.getD j 0)(hne:xs.getD j 0≠es.getD j 0):¬nb 4294967296 xs<nb 4294967296 es:=by
 have:=CV (s:=0) hx he (by omega) hwx hwe hj (by rw [eJ];exact h) (by rw [eJ];omega)
 rw [Nat.pow_zero,dV] at this
 omega
theorem a0j (hx:xs.length=n)(he:es.length=n)(hj:j<n)(h:nb 4294967296 (xs.drop (j+1))=nb 4294967296 (es.drop (j+1)))(hd:xs.getD j 0=es.getD j 0):nb 4294967296 (xs.drop j)=nb 4294967296 (es.drop j):=by
 rw [kF (xs:=xs) (k:=j) (by omega),kF (xs:=es) (k:=j) (by omega),h,hd]
theorem a0l (h:(db 4294967296 X).length<(db 4294967296 Y).length):X<Y:=by
 refine mU fun e=>?_
 have:=tI fT e
 omega
theorem S7 (hx:Rd w A n cap (db 4294967296 X))(hln:n≤274877906944)(hy:Rd w D m cd (db 4294967296 Y))(hlm:m≤274877906944):aP aN 240 #[we A n cap,we D m cd] w (Gv w (Is (.bool (decide (X<Y))))):=by
 have p:=hx.len
 have r:=hy.len
 have hwx:=jX fT X
 have hwe:=jX fT Y
 refine bN Tryz.func240 J (n:=41) J (bq J) (args:= [we A n cap,we D m cd]) (bG [(0,we A n cap),(1,we D m cd)] ⟨rfl,rfl,AT⟩ (sr (mv 1 J (a7 (aD (aD ?_))))))
 by_cases bm:n≠m
 ·by_cases bp:n<m
  ·refine aF (mv 1 J (pu (v:= no n) J (mv 1 J (pu (v:= no m) J (aI J J J true (tR (a:=n) (b:=m) J J) (a7 (aW J (sr (mv 1 J (pu (v:= no n) J (mv 1 J (pu (v:= no m) J (aI J J J true (eD (a:=n) (b:=m) J J) ?_)))))))))))))
   refine mv 1 J (a7 (aV (bR (aU [AI] J ⟨rfl,AT⟩ ?_))))
   have H:X<Y:=a0l (by omega)
   exact⟨_,rfl,(by rw [decide_eq_true H];rfl),(Ext.refl w)⟩
  ·refine aF (mv 1 J (pu (v:= no n) J (mv 1 J (pu (v:= no m) J (aI J J J true (tR (a:=n) (b:=m) J J) (a7 (aW J (sr (mv 1 J (pu (v:= no n) J (mv 1 J (pu (v:= no m) J (aI J J J false (eE (a:=n) (b:=m) J J) ?_)))))))))))))
   refine mv 1 J (a7 (aV (bR (aU [F0] J ⟨rfl,AT⟩ ?_))))
   have H:¬X<Y:=fun e=>by have:=tI fT (Nat.le_of_lt e);omega
   exact⟨_,rfl,(by rw [decide_eq_false H];rfl),(Ext.refl w)⟩
 ·obtain rfl:n=m:=by omega
  refine aF (mv 1 J (pu (v:= no n) J (mv 1 J (pu (v:= no n) J (aI J J J false (vU (a:=n) (b:=n) J J) (a7 (aQ J (aY (aO (aD (sr (mv 1 J (pu (v:= no n) J ?_)))))))))))))
  refine aR J J J (((n:Nat):Int)-1) (eL J) (mv 1 J (a7 (bO ?_)))
  refine d8 (T:=a6×Nat×Int)
   (fun⟨wr,k,ii⟩=> [(0,we A n cap),(1,we D n cd),(5,no ii)])
   (fun⟨wr,k,ii⟩=>wr)
   (fun⟨wr,k,ii⟩=>(Ext w wr)∧(k≤n)∧(ii=(k:Int)-1)∧(nb 4294967296 ((db 4294967296 X).drop k)=nb 4294967296 ((db 4294967296 Y).drop k))∧(Rd wr A n cap (db 4294967296 (X)))∧(Rd wr D n cd (db 4294967296 (Y))))
   (fun⟨wr,k,ii⟩=>k)
   (⟨w,n,_⟩:a6×Nat×Int) ⟨(Ext.refl w),aZ _,rfl,(by rw [List.drop_of_length_le (by omega),List.drop_of_length_le (by omega)]),hx,hy⟩ J ⟨rfl,rfl,rfl,AT⟩ ?_
  rintro⟨wr,k,ii⟩ ⟨I,_,_,f,G,F⟩
  refine cR [(0,we A n cap),(1,we D n cd),(5,no ii)] wr J ⟨rfl,rfl,rfl,AT⟩ (aD (aD ?_))
  by_cases bo:0<k
  ·obtain⟨j,rfl⟩:∃j,k=j+1:=⟨k-1,by omega⟩
   obtain rfl:ii=(j:Int):=by omega
   refine aF (mv 1 J (aI J J J true (gA (a:=j) (b:=0) J J) (a7 (aW J (aY (aO (aD (bO (aD ?_)))))))))
   by_cases bf:(db 4294967296 (X)).getD j 0≠(db 4294967296 (Y)).getD j 0
   ·by_cases aq:(db 4294967296 (X)).getD j 0<(db 4294967296 (Y)).getD j 0
    ·refine bG [(0,we A n cap),(1,we D n cd),(5,no j),(19,no j),(20,AI)] ⟨rfl,rfl,rfl,rfl,rfl,AT⟩ ?_
     obtain⟨v1,f,e2⟩:∃v,v=wr.drew∧Ext wr v:=⟨_,rfl,aL.drew⟩
     have E:=I.trans e2
     obtain⟨W,aw,am,_⟩:=((G.ext e2)).at (i:=j) (by omega)
     obtain⟨L,ai,aj,_⟩:=((F.ext e2)).at (i:=j) (by omega)
     refine gX bY (w:=v1) [we A n cap,no j,.pointer (some W),up (((db 4294967296 (X)).getD j 0:Nat):Int),we D n cd,no j,.pointer (some L),up (((db 4294967296 (Y)).getD j 0:Nat):Int),AI] [v1] [] [[],[],[0,1],[2],[],[],[4,5],[6],[3,7]] [[],[],[0,1],[0,1,2],[],[],[4,5],[4,5,6],[0,1,2,3,4,5,6,7]] [(0,0),(1,0),(2,0),(3,0),(4,0),(5,0),(6,0),(7,0),(8,0)] J f ?_ ?_
     ·refine bA _ J J J J J (bZ J) (bA _ J J J J J (bZ J) (bA _ J J J J J (fX J J bU bT j J W aw) (bA _ J J J J J (d7 J (dF cT am)) (bA _ J J J J J (bZ J) (bA _ J J J J J (bZ J) (bA _ J J J J J (fX J J bU bT j J L ai) (bA _ J J J J J (d7 J (dF cT aj)) (bA _ J J J J J (lD J J true (tR (a:=(db 4294967296 (X)).getD j 0) (b:=(db 4294967296 (Y)).getD j 0) J J)) ?_))))))))
      exact gW
     clear f
     refine gG [(0,we A n cap),(1,we D n cd),(5,no j),(19,no j),(20,AI),(23,we A n cap),(24,no j),(25,.pointer (some W)),(26,up (((db 4294967296 (X)).getD j 0:Nat):Int)),(27,we D n cd),(28,no j),(29,.pointer (some L)),(30,up (((db 4294967296 (Y)).getD j 0:Nat):Int)),(31,AI)] ⟨rfl,rfl,rfl,rfl,rfl,rfl,rfl,rfl,rfl,rfl,rfl,rfl,rfl,rfl,AT⟩ (aO (aW J (aD (bG [(0,we A n cap),(1,we D n cd),(5,no j),(19,no j),(20,AI),(23,we A n cap),(24,no j),(25,.pointer (some W)),(26,up (((db 4294967296 (X)).getD j 0:Nat):Int)),(27,we D n cd),(28,no j),(29,.pointer (some L)),(30,up (((db 4294967296 (Y)).getD j 0:Nat):Int)),(31,AI)] ⟨rfl,rfl,rfl,rfl,rfl,rfl,rfl,rfl,rfl,rfl,rfl,rfl,rfl,rfl,AT⟩ ?_))))
     obtain⟨v5,f,e6⟩:∃v,v=v1.drew∧Ext v1 v:=⟨_,rfl,aL.drew⟩
     have ab:=E.trans e6
     refine gX bY (w:=v5) [we A n cap,no j,.pointer (some W),up (((db 4294967296 (X)).getD j 0:Nat):Int),we D n cd,no j,.pointer (some L),up (((db 4294967296 (Y)).getD j 0:Nat):Int),AI,AI] [v5] [] [[],[],[0,1],[2],[],[],[4,5],[6],[3,7],[8]] [[],[],[0,1],[0,1,2],[],[],[4,5],[4,5,6],[0,1,2,3,4,5,6,7],[0,1,2,3,4,5,6,7,8]] [(0,0),(1,0),(2,0),(3,0),(4,0),(5,0),(6,0),(7,0),(8,0),(9,0)] J f ?_ ?_
     ·refine bA _ J J J J J (bZ J) (bA _ J J J J J (bZ J) (bA _ J J J J J (fX J J bU bT j J W aw) (bA _ J J J J J (d7 J (dF cT (e6.cell am))) (bA _ J J J J J (bZ J) (bA _ J J J J J (bZ J) (bA _ J J J J J (fX J J bU bT j J L ai) (bA _ J J J J J (d7 J (dF cT (e6.cell aj))) (bA _ J J J J J (lD J J true (eD (a:=(db 4294967296 (X)).getD j 0) (b:=(db 4294967296 (Y)).getD j 0) J J)) (bA _ J J J J J (lE J) ?_)))))))))
      exact gW
     clear f
     refine gG [(0,we A n cap),(1,we D n cd),(5,no j),(19,no j),(20,AI),(23,we A n cap),(24,no j),(25,.pointer (some W)),(26,up (((db 4294967296 (X)).getD j 0:Nat):Int)),(27,we D n cd),(28,no j),(29,.pointer (some L)),(30,up (((db 4294967296 (Y)).getD j 0:Nat):Int)),(31,AI),(32,we A n cap),(33,no j),(34,.pointer (some W)),(35,up (((db 4294967296 (X)).getD j 0:Nat):Int)),(36,we D n cd),(37,no j),(38,.pointer (some L)),(39,up (((db 4294967296 (Y)).getD j 0:Nat):Int)),(40,AI),(4,AI)] ⟨rfl,rfl,rfl,rfl,rfl,rfl,rfl,rfl,rfl,rfl,rfl,rfl,rfl,rfl,rfl,rfl,rfl,rfl,rfl,rfl,rfl,rfl,rfl,rfl,AT⟩ (aO (aV (fK (bR (m5 (fK (bR (aU [AI] J ⟨rfl,AT⟩ ?_))))))))
     have H:X<Y:=a0k p r hwx hwe (by omega) f aq |> fun h=>by rwa [gI fT,gI fT] at h
     exact⟨_,rfl,(by rw [decide_eq_true H];rfl),ab⟩
    ·refine bG [(0,we A n cap),(1,we D n cd),(5,no j),(19,no j),(20,AI)] ⟨rfl,rfl,rfl,rfl,rfl,AT⟩ ?_
     obtain⟨v7,f,e8⟩:∃v,v=wr.drew∧Ext wr v:=⟨_,rfl,aL.drew⟩
     have E:=I.trans e8
     obtain⟨V,ao,au,_⟩:=((G.ext e8)).at (i:=j) (by omega)
     obtain⟨o,M,U,_⟩:=((F.ext e8)).at (i:=j) (by omega)
     refine gX bY (w:=v7) [we A n cap,no j,.pointer (some V),up (((db 4294967296 (X)).getD j 0:Nat):Int),we D n cd,no j,.pointer (some o),up (((db 4294967296 (Y)).getD j 0:Nat):Int),AI] [v7] [] [[],[],[0,1],[2],[],[],[4,5],[6],[3,7]] [[],[],[0,1],[0,1,2],[],[],[4,5],[4,5,6],[0,1,2,3,4,5,6,7]] [(0,0),(1,0),(2,0),(3,0),(4,0),(5,0),(6,0),(7,0),(8,0)] J f ?_ ?_
     ·refine bA _ J J J J J (bZ J) (bA _ J J J J J (bZ J) (bA _ J J J J J (fX J J bU bT j J V ao) (bA _ J J J J J (d7 J (dF cT au)) (bA _ J J J J J (bZ J) (bA _ J J J J J (bZ J) (bA _ J J J J J (fX J J bU bT j J o M) (bA _ J J J J J (d7 J (dF cT U)) (bA _ J J J J J (lD J J true (tR (a:=(db 4294967296 (X)).getD j 0) (b:=(db 4294967296 (Y)).getD j 0) J J)) ?_))))))))
      exact gW
     clear f
     refine gG [(0,we A n cap),(1,we D n cd),(5,no j),(19,no j),(20,AI),(23,we A n cap),(24,no j),(25,.pointer (some V)),(26,up (((db 4294967296 (X)).getD j 0:Nat):Int)),(27,we D n cd),(28,no j),(29,.pointer (some o)),(30,up (((db 4294967296 (Y)).getD j 0:Nat):Int)),(31,AI)] ⟨rfl,rfl,rfl,rfl,rfl,rfl,rfl,rfl,rfl,rfl,rfl,rfl,rfl,rfl,AT⟩ (aO (aW J (aD (bG [(0,we A n cap),(1,we D n cd),(5,no j),(19,no j),(20,AI),(23,we A n cap),(24,no j),(25,.pointer (some V)),(26,up (((db 4294967296 (X)).getD j 0:Nat):Int)),(27,we D n cd),(28,no j),(29,.pointer (some o)),(30,up (((db 4294967296 (Y)).getD j 0:Nat):Int)),(31,AI)] ⟨rfl,rfl,rfl,rfl,rfl,rfl,rfl,rfl,rfl,rfl,rfl,rfl,rfl,rfl,AT⟩ ?_))))
     obtain⟨ah,f,aa⟩:∃v,v=v7.drew∧Ext v7 v:=⟨_,rfl,aL.drew⟩
     have ab:=E.trans aa
     refine gX bY (w:=ah) [we A n cap,no j,.pointer (some V),up (((db 4294967296 (X)).getD j 0:Nat):Int),we D n cd,no j,.pointer (some o),up (((db 4294967296 (Y)).getD j 0:Nat):Int),F0,F0] [ah] [] [[],[],[0,1],[2],[],[],[4,5],[6],[3,7],[8]] [[],[],[0,1],[0,1,2],[],[],[4,5],[4,5,6],[0,1,2,3,4,5,6,7],[0,1,2,3,4,5,6,7,8]] [(0,0),(1,0),(2,0),(3,0),(4,0),(5,0),(6,0),(7,0),(8,0),(9,0)] J f ?_ ?_
     ·refine bA _ J J J J J (bZ J) (bA _ J J J J J (bZ J) (bA _ J J J J J (fX J J bU bT j J V ao) (bA _ J J J J J (d7 J (dF cT (aa.cell au))) (bA _ J J J J J (bZ J) (bA _ J J J J J (bZ J) (bA _ J J J J J (fX J J bU bT j J o M) (bA _ J J J J J (d7 J (dF cT (aa.cell U))) (bA _ J J J J J (lD J J false (eE (a:=(db 4294967296 (X)).getD j 0) (b:=(db 4294967296 (Y)).getD j 0) J J)) (bA _ J J J J J (lE J) ?_)))))))))
      exact gW
     clear f
     refine gG [(0,we A n cap),(1,we D n cd),(5,no j),(19,no j),(20,AI),(23,we A n cap),(24,no j),(25,.pointer (some V)),(26,up (((db 4294967296 (X)).getD j 0:Nat):Int)),(27,we D n cd),(28,no j),(29,.pointer (some o)),(30,up (((db 4294967296 (Y)).getD j 0:Nat):Int)),(31,AI),(32,we A n cap),(33,no j),(34,.pointer (some V)),(35,up (((db 4294967296 (X)).getD j 0:Nat):Int)),(36,we D n cd),(37,no j),(38,.pointer (some o)),(39,up (((db 4294967296 (Y)).getD j 0:Nat):Int)),(40,AS),(4,AS)] ⟨rfl,rfl,rfl,rfl,rfl,rfl,rfl,rfl,rfl,rfl,rfl,rfl,rfl,rfl,rfl,rfl,rfl,rfl,rfl,rfl,rfl,rfl,rfl,rfl,AT⟩ (aO (aV (fK (bR (m5 (fK (bR (aU [F0] J ⟨rfl,AT⟩ ?_))))))))
     have H:¬X<Y:=a0m p r hwx hwe (by omega) f aq bf |> fun h=>by rwa [gI fT,gI fT] at h
     exact⟨_,rfl,(by rw [decide_eq_false H];rfl),ab⟩
   ·refine bG [(0,we A n cap),(1,we D n cd),(5,no j),(19,no j),(20,AI)] ⟨rfl,rfl,rfl,rfl,rfl,AT⟩ ?_
    obtain⟨ag,f,q⟩:∃v,v=wr.drew∧Ext wr v:=⟨_,rfl,aL.drew⟩
    have E:=I.trans q
    obtain⟨Z,ak,ar,_⟩:=((G.ext q)).at (i:=j) (by omega)
    obtain⟨ae,ap,av,_⟩:=((F.ext q)).at (i:=j) (by omega)
    refine gX bY (w:=ag) [we A n cap,no j,.pointer (some Z),up (((db 4294967296 (X)).getD j 0:Nat):Int),we D n cd,no j,.pointer (some ae),up (((db 4294967296 (Y)).getD j 0:Nat):Int),F0] [ag] [] [[],[],[0,1],[2],[],[],[4,5],[6],[3,7]] [[],[],[0,1],[0,1,2],[],[],[4,5],[4,5,6],[0,1,2,3,4,5,6,7]] [(0,0),(1,0),(2,0),(3,0),(4,0),(5,0),(6,0),(7,0),(8,0)] J f ?_ ?_
    ·refine bA _ J J J J J (bZ J) (bA _ J J J J J (bZ J) (bA _ J J J J J (fX J J bU bT j J Z ak) (bA _ J J J J J (d7 J (dF cT ar)) (bA _ J J J J J (bZ J) (bA _ J J J J J (bZ J) (bA _ J J J J J (fX J J bU bT j J ae ap) (bA _ J J J J J (d7 J (dF cT av)) (bA _ J J J J J (lD J J false (vU (a:=(db 4294967296 (X)).getD j 0) (b:=(db 4294967296 (Y)).getD j 0) J J)) ?_))))))))
     exact gW
    clear f
    refine gG [(0,we A n cap),(1,we D n cd),(5,no j),(19,no j),(20,AI),(23,we A n cap),(24,no j),(25,.pointer (some Z)),(26,up (((db 4294967296 (X)).getD j 0:Nat):Int)),(27,we D n cd),(28,no j),(29,.pointer (some ae)),(30,up (((db 4294967296 (Y)).getD j 0:Nat):Int)),(31,AS)] ⟨rfl,rfl,rfl,rfl,rfl,rfl,rfl,rfl,rfl,rfl,rfl,rfl,rfl,rfl,AT⟩ (aO (aQ J (aY (bQ (aO (aF (mv 1 J (aR J J J (((j:Nat):Int)-1) (eL J) (mv 1 J (aX (cM (⟨ag,j,_⟩:a6×Nat×Int) ⟨E,(by omega),rfl,a0j p r (by omega) f (by omega),(G.ext q),(F.ext q)⟩ (show j<j+1 by omega) J ⟨rfl,rfl,rfl,AT⟩)))))))))))
  ·obtain rfl:k=0:=by omega
   refine aF (mv 1 J (aI J J J false (kQ) (a7 (aQ J (d4 (cU (cY (cZ (aO (sr (mv 1 J (a7 (aV ?_)))))))))))))
   refine aU [F0] J ⟨rfl,AT⟩ ?_
   have bd:¬X<Y:=by have h1:=gI fT X;have h2:=gI fT Y;rw [gP,gP,h1,h2] at f;omega
   have H:¬X<Y:=bd
   exact⟨_,rfl,(by rw [decide_eq_false H];rfl),I⟩
def PK (g N q:Nat)(l:List Nat)(w:a6)(e:Ending)(w':a6):Prop:=
 e= .returned (.tuple #[])∧Upd g w w'∧∃l',Bk w' g 65 (l'.map bF)∧l'.length=N∧Wfb 4294967296 l'∧nb 4294967296 l'=nb 4294967296 l*4+q
theorem TH {x d:Nat}(h:nb b (l'.take i)+b^i*c=nb b (l.take i)*4+q)(hi:i<l'.length)(hi2:i<l.length)(hx:l.getD i 0=x)(hd:d+b*d'=x*4+c):nb b ((l'.set i d).take (i+1))+b^(i+1)*d'=nb b (l.take (i+1))*4+q:=by
 rw [nG b hi,hZ b l i hi2,hx,cW,bX,iM,←cI,hd,cI,dK]
 have e:b^i*(x*4)=b^i*x*4:=by rw [bX]
 omega
theorem C4 {d:Nat}(h:∀j,i≤j→l'.getD j 0=l.getD j 0):∀j,i+1≤j→(l'.set i d).getD j 0=l.getD j 0:=fun j _=>by rw [getD_set_ne (by omega),h j (by omega)]
theorem TI (hl:l.length=N)(hl':l'.length=N)(h:nb 4294967296 (l'.take N)+4294967296^N*c=nb 4294967296 (l.take N)*4+q)(hb:nb 4294967296 l*4+q<4294967296^N):nb 4294967296 l'=nb 4294967296 l*4+q:=by
 rw [List.take_of_length_le (by omega),List.take_of_length_le (by omega)] at h
 have f:c=0:=by
  refine Nat.eq_zero_of_not_pos fun e=>?_
  have o:4294967296^N*1≤4294967296^N*c:=fJ _ e
  omega
 rw [f,gM,fC] at h
 exact h
theorem GZ (hb0:Bk w g 65 (l.map bF))(hl0:l.length=N)(hN:N≤1099511627776)(hwl:Wfb 4294967296 l)(hq:q≤3)(hfit:nb 4294967296 l*4+q<4294967296^N):aP aN 239 #[we (some ⟨g,0,none⟩) N N,up q] w (PK g N q l w):=by
 refine bN Tryz.func239 J (n:=28) J (bq J) (args:= [we (some ⟨g,0,none⟩) N N,up q]) (bG [(0,we (some ⟨g,0,none⟩) N N),(1,up q)] ⟨rfl,rfl,AT⟩ (sr (mv 2 J (a7 (sr (mv 1 J (a7 (bO ?_))))))))
 refine d8 (T:=a6×Nat×Nat×List Nat)
  (fun⟨wr,i,c,l'⟩=> [(0,we (some ⟨g,0,none⟩) N N),(4,up c),(5,no i)])
  (fun⟨wr,i,c,l'⟩=>wr)
  (fun⟨wr,i,c,l'⟩=>(Upd g w wr)∧(i≤N)∧(c≤3)∧(Bk wr g 65 (l'.map bF))∧(l'.length=N)∧(Wfb 4294967296 l')∧(∀j,i≤j→l'.getD j 0=l.getD j 0)∧(nb 4294967296 (l'.take i)+4294967296^i*c=nb 4294967296 (l.take i)*4+q))
  (fun⟨wr,i,c,l'⟩=>N-i)
  (⟨w,0,q,l⟩:a6×Nat×Nat×List Nat) ⟨Upd.refl g w,(bJ _),(by omega),hb0,hl0,hwl,(fun _ _=>rfl),(by simp [nb])⟩ J ⟨rfl,rfl,rfl,AT⟩ ?_
 rintro⟨wr,i,c,l'⟩ ⟨r,hi,_,hb,hl,e,f,p⟩
 refine cR [(0,we (some ⟨g,0,none⟩) N N),(4,up c),(5,no i)] wr J ⟨rfl,rfl,rfl,AT⟩ (aD (aD ?_))
 by_cases F:i<N
 ·refine aF (mv 2 J (pu (v:= no N) J (aI J J J true (eD (a:=i) (b:=N) J J) (a7 (aW J (aY (aO (aD (bO (aD ?_))))))))))
  have G:=i6 (b:=4294967296) e i
  refine aF (mv 2 J (cD J J J bU bT i J ⟨g,i,none⟩ (eA _ _) (bB J J (iB cT hb (by rw [hl];omega)) (aR J J J (((l'.getD i 0)*4:Nat):Int) (kU (a:=l'.getD i 0) (b:=4) J J) (mv 1 J (aR J J J ((((l'.getD i 0)*4)+c:Nat):Int) (iY (a:=(l'.getD i 0)*4) (b:=c) J J) (mv 1 J (a7 (sr (mv 3 J (aR J J J (((((l'.getD i 0)*4)+c)%4294967296:Nat):Int) (jJ (a:=((l'.getD i 0)*4)+c) (b:=4294967296) J J) (cD J J J bU bT i J ⟨g,i,none⟩ (eA _ _) ?_))))))))))))
  have h:=hb
  refine dE J J J bT J h (gV (by rw [hl];omega)) J ((l'.set i ((((l'.getD i 0)*4)+c)%4294967296)).map bF) (dX _ _ _) fun D o E _=>(a7 (aF (mv 1 J (aR J J J (((((l'.getD i 0)*4)+c)/4294967296:Nat):Int) (jK (a:=((l'.getD i 0)*4)+c) (b:=4294967296) J J) (mv 1 J (aX (bQ (aO (aF (mv 1 J (aR J J J ((i+1:Nat):Int) (cA (a:=i) (b:=1) J J) (mv 1 J (aX ?_)))))))))))))
  refine cM (⟨D,i+1,_,_⟩:a6×Nat×Nat×List Nat) ⟨r.trans E,(by omega),(by omega),o,(iC (l:=l') (hl)),i0 e _ (hx:=(f7 _ (by decide))),(C4 f),(TH p (by omega) (by omega) (f i (aZ _)).symm (Nat.mod_add_div _ _))⟩ (show N-(i+1)<N-i by omega) J ⟨rfl,rfl,rfl,AT⟩
 ·refine aF (mv 2 J (pu (v:= no N) J (aI J J J false (eE (a:=i) (b:=N) J J) (a7 (aQ J (d4 (cU (cY (cZ (tO [] J AT ?_))))))))))
  obtain rfl:i=N:=by omega
  exact⟨rfl,r,l',hb,hl,e,TI hl0 hl p hfit⟩
theorem S9 (hx:Rd w A n cap xs)(hln:n≤137438953472)(hy:Rd w D m cd ys)(hlm:m≤137438953472):aP aN 203 #[we A n cap,we D m cd] w (Gv w (WR w.heap.size (Nat.gcd (nv xs) (nv ys)))):=by
 refine bN Tryz.func203 J (n:=26) J (bq J) (args:= [we A n cap,we D m cd]) (bG [(0,we A n cap),(1,we D m cd)] ⟨rfl,rfl,AT⟩ (sr (mv 1 J (a7 (sr (mv 1 J (cl (vs:= [we A n cap]) (Ext.refl w) (sZ hx) J (by kernel_rfl) fun _ _ r3 e2 E=>?_)))))))
 obtain⟨_,_,_,rfl,U⟩:=r3
 refine mv 1 J (a7 (sr (mv 1 J (cl (vs:= [we D m cd]) E (sZ (hy.ext e2)) J (by kernel_rfl) fun _ v5 r7 e6 r=>?_))))
 obtain⟨_,_,_,rfl,eO⟩:=r7
 refine mv 1 J (a7 (aD (bO ?_)))
 have ap:=U.hl hx (aZ _)
 have aq:=eO.hl hy (aZ _)
 refine d8 (T:=a6×Option aB×Nat×Nat×Nat×Option aB×Nat×Nat×Nat)
  (fun⟨wr,G,F,H,q,L,o,d1,f⟩=> [(5,we G F H),(6,we L o d1)])
  (fun⟨wr,G,F,H,q,L,o,d1,f⟩=>wr)
  (fun⟨wr,G,F,H,q,L,o,d1,f⟩=>(Ext w wr)∧(F≤274877906944)∧(o≤274877906944)∧(Nat.gcd q f=Nat.gcd (nv xs) (nv ys))∧(Rd wr G F H (db 4294967296 (q)))∧(Rd wr L o d1 (db 4294967296 (f))))
  (fun⟨wr,G,F,H,q,L,o,d1,f⟩=>f)
  (⟨v5,_,_,_,_,_,_,_,_⟩:a6×Option aB×Nat×Nat×Nat×Option aB×Nat×Nat×Nat) ⟨r,(by omega),(by omega),rfl,(U.ext e6),eO⟩ J ⟨rfl,rfl,AT⟩ ?_
 rintro⟨wr,G,F,H,q,L,o,d1,f⟩ ⟨E,_,_,hg,M,p⟩
 refine cR [(5,we G F H),(6,we L o d1)] wr J ⟨rfl,rfl,AT⟩ (aD (aD ?_))
 by_cases ar:o>0
 ·have ae:f≠0:=fun e=>by have h:=p.len;rw [e,jH] at h;simp only [List.length_nil] at h;omega
  refine aF (mv 1 J (pu (v:= no o) J (aI J J J true (eW (a:=o) (b:=0) J J) (a7 (aW J (aY (aO (bO (sr (mv 2 J (cl (vs:= [we G F H,we L o d1]) E (H5 M (by omega) p (by omega) ae) J (by kernel_rfl) fun _ v9 X aa r=>?_)))))))))))
  obtain⟨_,_,rfl,⟨am,V,ao,rfl,_⟩,⟨ab,Z,ag,rfl,I⟩⟩:=X
  refine mv 1 J (pu (v:= we am V ao) J (pu (v:= we ab Z ag) J (mv 2 J (a7 (sr (mv 2 J (a7 (aF (mv 2 J (aX (bQ (cM (⟨v9,_,_,_,f,_,_,_,q%f⟩:a6×Option aB×Nat×Nat×Nat×Option aB×Nat×Nat×Nat) ⟨r,(by omega),(by have h1:=I.len;have h2:=p.len;have h3:=tI fT (Nat.le_of_lt (f7 q (show f>0 by omega)));omega),(by rw [←hg,Nat.gcd_comm q f,Nat.gcd_rec f q,Nat.gcd_comm]),(p.ext aa),I⟩ (show q%f<f from f7 _ (by omega)) J ⟨rfl,rfl,AT⟩))))))))))))
 ·obtain rfl:f=0:=(rJ fT).1 (by have h:=p.len;omega)
  rw [Nat.gcd_zero_right] at hg
  refine aF (mv 1 J (pu (v:= no o) J (aI J J J false (fS (a:=o) (b:=0) J J) (a7 (aQ J (d4 (cU (cY (cZ (aO (sr (mv 1 J (cl (vs:= [we G F H]) E (BW E.size M) J (by kernel_rfl) fun _ _ aj _ r=>?_)))))))))))))
  obtain⟨ai,ah,Y,rfl,W,ak⟩:=aj
  refine mv 1 J (a7 (aV (aU [we ai ah Y] J ⟨rfl,AT⟩ ?_)))
  exact⟨_,rfl,(by rw [←hg];exact⟨_,_,_,rfl,W,ak⟩),r⟩
theorem WS (hb:b≤w.heap.size)(hx:Wi w A n cap i)(hl:n≤17179869183)(hy:Wi w B m cap' j)(hl':m≤17179869183):aP aN 203 #[we A n cap,we B m cap'] w (Gv w (WR b (Nat.gcd i j))):=by
 obtain⟨xs,h1,rfl⟩:=hx
 obtain⟨ys,h2,rfl⟩:=hy
 exact (S9 h1 (by omega) h2 (by omega)).mono (Gv.imp (WR.imp hb))
theorem DB {q:Int}(h0:y≠0)(he:q*y+r=x)(h1:0≤r)(h2:r<(y.natAbs:Int):=by omega):q=x/y∧r=x%y:=by
 have E:=Int.mul_ediv_add_emod x y
 have F:=j0 x h0
 have D:=Int.emod_lt x h0
 have o:(q-x/y)*y=x%y-r:=by rw [Int.sub_mul,Int.mul_comm (x/y)];omega
 have p:q-x/y=0:=by
  by_cases f:q-x/y=0
  ·exact f
  ·exfalso
   have h:((q-x/y)*y).natAbs<y.natAbs:=by rw [o];omega
   rw [Int.natAbs_mul] at h
   have:1*y.natAbs≤(q-x/y).natAbs*y.natAbs:=eI _ (by omega)
   omega
 have e:q=x/y:=by omega
 refine⟨e,?_⟩
 rw [e,Int.mul_comm] at he
 omega
theorem UJ (x y:Int):(x/y).natAbs≤x.natAbs:=by
 by_cases h:y=0
 ·subst h;simp
 ·have F:=Int.mul_ediv_add_emod x y
  have D:=j0 x h
  have r:=Int.emod_lt x h
  have f:(y*(x/y)).natAbs=y.natAbs*(x/y).natAbs:=Int.natAbs_mul _ _
  rcases Nat.lt_or_ge y.natAbs 2 with p | p
  ·have h1:y.natAbs=1:=by omega
   rw [h1,Nat.one_mul] at f;omega
  ·by_cases q:(x/y).natAbs=0
   ·omega
   ·have E:y.natAbs+(x/y).natAbs≤y.natAbs*(x/y).natAbs+1:=by
     obtain⟨a,e⟩:∃a,y.natAbs=a+1:=⟨y.natAbs-1,by omega⟩
     obtain⟨c,o⟩:∃c,(x/y).natAbs=c+1:=⟨(x/y).natAbs-1,by omega⟩
     rw [e,o,dK,cI];omega
    omega
theorem CO (h:ln x≤N):ln (x/y)≤N+1:=a8 (a8 (dZ (UJ x y)) h) (Nat.le_succ _)
theorem CQ {nb:Nat}(hb:b≤w.heap.size)(hx:Zi w sa Aa na ca x)(la:na≤8589934591)(hy:Zi w sb Ab nb cb y)(lb:nb≤8589934591)(h0:y≠0):aP aN 135 #[O sa Aa na ca,O sb Ab nb cb] w (Gv w (T3 (ZR b (x/y)) (ZR b (x%y)) (Is (no 0)))):=by
 refine Calls.mono (R:=Gv w (T3 (ZR w.heap.size (x/y)) (ZR w.heap.size (x%y)) (Is (no 0)))) ?_ (Gv.imp (T3.imp (ZR.imp hb) (ZR.imp hb) Is.imp))
 have Lx:ln x≤8589934591:=a8 hx.ln la
 have Ly:ln y≤8589934591:=a8 hy.ln lb
 refine bN Tryz.func135 J (n:=42) J (bq J) (args:= [O sa Aa na ca,O sb Ab nb cb]) (bG [(0,O sa Aa na ca),(1,O sb Ab nb cb)] ⟨rfl,rfl,AT⟩ (sr (bx (a5 sa Aa na ca) (Ext.refl w) J J J fun _ _ kd _ _ mu=>(fG (a5 sb Ab nb cb) mu kd.lt J J J fun g6 _ ei _ _ e8 mz=>(bL [F0,S0] mz ei.lt (fun _=>by kernel_rfl) J fun en _ dx fq _ el nj=>(bL [F0,S0] nj dx.lt (fun _=>by kernel_rfl) J fun ej _ eh fc _ cj fw=>(mv 1 J (a7 (sr (lo aA (kd.ext (e8.t (el.t cj))) (a5 sa Aa na ca) J J J (lo aA (ei.ext (el.t cj)) (a5 sb Ab nb cb) J J J ?_)))))))))))
 have em:ln (x.tdiv y)≤8589934591:=a8 (iW _ _) Lx
 have cz:ln (x.tmod y)≤8589934591:=a8 (rG _ _) Lx
 refine cl (vs:= [O sa Aa na ca,O sb Ab nb cb]) fw (D2 fw.size (hx.ext fw) (aK la J) (hy.ext fw) (aK lb J) h0) J (by kernel_rfl) fun _ _ oa av nx=>?_
 obtain⟨_,_,_,rfl,⟨V,M,W,U,rfl,fb⟩,⟨F,E,I,G,rfl,ci⟩,rfl⟩:=oa
 refine mv 1 J (pu (v:= O V M W U) J (pu (v:= O F E I G) J (pu (v:= no 0) J (bL [F0,S0] nx (eh.ext av).lt (fun _=>by kernel_rfl) J fun fy _ gx fv _ L mx=>(bL [F0,S0] mx gx.lt (fun _=>by kernel_rfl) J fun fx _ iq fm _ D nw=>?_)))))
 have X:=(gx.ext D)
 refine so aA X (a5 V M W U) nw fv J J J J fun _ ck H my=>?_
 have aa:=(iq.vN H)
 refine so aA aa (a5 F E I G) my fm J J J J fun _ ao h je=>(mv 1 J (a7 (aD (aD ?_))))
 have mt:=Int.tdiv_mul_add_tmod x y
 have ha:=kL (x:=x) h0
 by_cases hk:0≤x.tmod y
 ·have hu:=DB (q:=x.tdiv y) (r:=x.tmod y) (x:=x) h0 mt hk
  refine aF (mv 1 J (pu (v:= AS) J (mv 1 J (lo aA ao (a5 F E I G) J J J (cl (vs:= [O F E I G]) je (eV (((ci.ext (L.t D)).updT X H).updT aa h).zi (ci.le (aK cz J))) J (by kernel_rfl) fun _ ka nz df bp=>?_)))))
  obtain rfl:=nz
  refine aI J J J true (QO hk) (pu (v:= AI) J (a7 (aW J (aD (bG [(3,i5 g6 0),(4,i5 en 0),(5,i5 ej 0),(7,i5 fy 0),(8,i5 fx 0),(9,no 0)] ⟨rfl,rfl,rfl,rfl,rfl,rfl,AT⟩ ?_)))))
  obtain⟨mh,hv,cv⟩:∃v,v=ka.drew∧Ext ka v:=⟨_,rfl,aL.drew⟩
  have Y:=bp.trans cv
  have fi:=((((dx.ext (cj.t (av.t (L.t D)))).vN H).vN h).ext (df.t cv))
  obtain⟨ny,me,kj,fp,_⟩:=iJ (P:=aN) (us:= (a5 V M W U)) (off:=0) aA J fi (bq J) J (a5 V M W U) rfl
  have e:=fp.ext Y fq
  have ez:=(((((eh.ext (av.t (L.t D))).vN H).vN h).ext (df.t cv)).vN fp)
  obtain⟨nc,jp,mi,fz,_⟩:=iJ (P:=aN) (us:= (a5 F E I G)) (off:=0) aA J ez (bq J) J (a5 F E I G) rfl
  have p:=fz.ext e fc
  refine gX bY (w:=mh) [O V M W U,O F E I G,I0,undef,undef,I0] [mh,ny,nc] [3,4] [[],[],[],[0],[1],[2]] [[],[],[],[0],[0,1,3],[0,1,2,3,4]] [(0,0),(1,0),(1,1),(2,0),(2,1),(2,2),(3,0),(4,1),(5,2)] J hv ?_ ?_
  ·refine bA _ J J J J J (d7 J (bH aA ((ck.vN h).ext (df.t cv)) (a5 V M W U) J (bq J) J)) (bA _ J J J J J (d7 J (bH aA (ao.ext (df.t cv)) (a5 F E I G) J (bq J) J)) (bA _ J J J J J (d7 J (bH aA ((ao.ext (df.t cv)).vN fp) (a5 F E I G) J (bq J) J)) (bA _ J J J J J (bZ J) (bA _ J J J J J (bZ J) (bA _ J J J J J (bZ J) (iR _ J J J J J (iA J J me) (iR _ J J J J J (iA J J jp) (bA _ J J J J J (lE J) ?_))))))))
   exact gW
  clear hv
  refine gG [(3,i5 g6 0),(4,i5 en 0),(5,i5 ej 0),(7,i5 fy 0),(8,i5 fx 0),(6,no 0)] ⟨rfl,rfl,rfl,rfl,rfl,rfl,AT⟩ (aO (aV (bR (aU [O V M W U,O F E I G,I0] J ⟨⟨_,rfl,bH aA (kj.vN fz) (a5 V M W U) J (bq J) rfl⟩,⟨_,rfl,bH aA mi (a5 F E I G) J (bq J) rfl⟩,rfl,AT⟩ ?_))))
  exact⟨_,rfl,⟨_,_,_,rfl,⟨_,_,_,_,rfl,(((((((fb.ext (L.t D)).updT X H).updT aa h).ext (df.t cv)).updT fi fp).updT ez fz)).cast (hu.1)⟩,⟨_,_,_,_,rfl,(((((((ci.ext (L.t D)).updT X H).updT aa h).ext (df.t cv)).updT fi fp).updT ez fz)).cast (hu.2)⟩,rfl⟩,p⟩
 ·refine aF (mv 1 J (pu (v:= AS) J (mv 1 J (lo aA ao (a5 F E I G) J J J (cl (vs:= [O F E I G]) je (eV (((ci.ext (L.t D)).updT X H).updT aa h).zi (ci.le (aK cz J))) J (by kernel_rfl) fun _ _ nh o bp=>?_)))))
  obtain rfl:=nh
  refine aI J J J false (QP (by omega)) (pu (v:= AS) J (a7 (aQ J (aY (aO (aD (aD ?_)))))))
  by_cases hp:0<y
  ·have hu:=DB (q:=x.tdiv y-1) (r:=x.tmod y+(Int.natAbs y:Int)) (x:=x) h0 (by rw [Int.sub_mul,Int.one_mul];omega) (by omega)
   refine aF (lo aA ((((ei.ext (el.t (cj.t (av.t (L.t D))))).vN H).vN h).ext o) (a5 sb Ab nb cb) J J J (cl (vs:= [O sb Ab nb cb]) bp (eV (hy.ext bp) (aK lb J)) J (by kernel_rfl) fun _ _ nu ch Y=>?_))
   obtain rfl:=nu
   refine aI J J J true (uQ hp) (a7 (aW J ?_))
   have ox:ln ((x.tdiv y)-1)≤8589934592:=a8 (jT em (show ln 1≤1 by decide+kernel)) (by decide)
   refine dG bY 3 [] [Is (O V M W U),ZR w.heap.size (1),ZR w.heap.size ((x.tdiv y)-1)] [[],[],[0,1]] [[],[],[0,1],[0,1,2]] rfl
    (aH J J (aE J J ?_) (aH J J (aE J J ?_) (aH J J (aE J J ?_) d9))) ?_
   ·exact fun _ nl=>aC (lo aA ((ck.vN h).ext (o.t (ch.t nl))) (a5 V M W U) J J J (aG J aL J))
   ·intro _ nt
    have e:=Y.trans nt
    refine aC (cl (vs:= [no 1]) e (KI e.size) J (by kernel_rfl) fun _ _ nk mr p=>?_)
    obtain⟨_,_,_,_,rfl,nm⟩:=nk
    exact aG J mr ⟨_,_,_,_,rfl,nm⟩
   ·intro _ jx
    have e:=Y.trans jx
    refine dk J J (aT J J fun _ _ ni fB mw=>?_)
    obtain⟨kq,lh,mc,ma,rfl,ef⟩:=ni
    have ef:=ef.ext mw
    refine aC ?_
    have ou:ln ((x.tdiv y)-1)≤8589934592:=a8 (jT em (show ln 1≤1 by decide+kernel)) (by decide)
    refine cl (vs:= [O V M W U,O kq lh mc ma]) e (yK e.size ((((fb.ext (L.t D)).updT X H).updT aa h).ext (o.t (ch.t jx))).zi (fb.le (aK em J)) ef.zi (ef.le (a8 (show ln 1≤1 by decide+kernel) (by decide)))) J (by kernel_rfl) fun _ _ lk mq p=>?_
    obtain⟨_,_,_,_,rfl,lw⟩:=lk
    exact aG J mq ⟨_,_,_,_,rfl,lw⟩
   ·intro _ ae
    have e:=Y.trans ae
    refine dk J J (aT J J fun _ _ jy _ mj=>?_)
    obtain⟨_,_,_,_,rfl,ga⟩:=jy
    have ga:=ga.ext mj
    refine aT J J fun _ _ jm _ jl=>?_
    obtain⟨az,bg,bm,bf,rfl,ft⟩:=jm
    have ft:=ft.ext jl
    refine aC ?_
    have de:=((ck.vN h).ext (o.t (ch.t ae)))
    refine so aA de (a5 az bg bm bf) e fv J J J J fun _ ic bj p=>(aX (dC (aO (aD ?_))))
    have fo:ln ((Int.natAbs y:Int))≤8589934591:=(by rw [tG];exact Ly)
    have oq:ln ((x.tmod y)+(Int.natAbs y:Int))≤8589934592:=a8 (dN cz fo) (by decide)
    refine dG bY 4 [] [Is (O F E I G),Is (O sb Ab nb cb),ZR w.heap.size ((Int.natAbs y:Int)),ZR w.heap.size ((x.tmod y)+(Int.natAbs y:Int))] [[],[],[1],[0,2]] [[],[],[1],[0,1,2],[0,1,2,3]] rfl
     (aH J J (aE J J ?_) (aH J J (aE J J ?_) (aH J J (aE J J ?_) (aH J J (aE J J ?_) d9)))) ?_
    ·exact fun _ ix=>aC (lo aA (((ao.ext (o.t (ch.t ae))).vN bj).ext ix) (a5 F E I G) J J J (aG J aL J))
    ·exact fun _ kx=>aC (lo aA ((((((ei.ext (el.t (cj.t (av.t (L.t D))))).vN H).vN h).ext (o.t (ch.t ae))).vN bj).ext kx) (a5 sb Ab nb cb) J J J (aG J aL J))
    ·intro _ mn
     have f:=p.trans mn
     refine dk J J (aC ?_)
     have oh:ln ((Int.natAbs y:Int))≤8589934591:=(by rw [tG];exact Ly)
     refine cl (vs:= [O sb Ab nb cb]) f (KL f.size (hy.ext f) (aK lb J)) J (by kernel_rfl) fun _ _ mg ky bd=>?_
     obtain⟨_,_,_,_,rfl,jg⟩:=mg
     exact aG J ky ⟨_,_,_,_,rfl,jg⟩
    ·intro _ gi
     have f:=p.trans gi
     refine dk J J (aT J J fun _ _ jh _ mp=>?_)
     obtain⟨jf,kg,lm,lj,rfl,du⟩:=jh
     have du:=du.ext mp
     refine aC ?_
     have oi:ln ((x.tmod y)+(Int.natAbs y:Int))≤8589934592:=a8 (dN cz fo) (by decide)
     refine cl (vs:= [O F E I G,O jf kg lm lj]) f (oO f.size ((((((ci.ext (L.t D)).updT X H).updT aa h).ext (o.t (ch.t ae))).updT de bj).ext gi).zi (ci.le (aK cz J)) du.zi (du.le (aK fo J))) J (by kernel_rfl) fun _ _ ko jz bd=>?_
     obtain⟨_,_,_,_,rfl,ke⟩:=ko
     exact aG J jz ⟨_,_,_,_,rfl,ke⟩
    ·intro _ bu
     have f:=p.trans bu
     refine dk J J (dk J J (aT J J fun _ _ jo _ ji=>?_))
     obtain⟨_,_,_,_,rfl,gk⟩:=jo
     have gk:=gk.ext ji
     refine aT J J fun _ _ mf _ ir=>?_
     obtain⟨au,ar,am,ag,rfl,fk⟩:=mf
     have fk:=fk.ext ir
     refine aC ?_
     have dl:=(((ao.ext (o.t (ch.t ae))).vN bj).ext bu)
     refine so aA dl (a5 au ar am ag) f fm J J J J fun gb fg cu bd=>(aX (dC (aO (aD (bG [(4,i5 en 0),(5,i5 ej 0),(7,i5 fy 0),(8,i5 fx 0)] ⟨rfl,rfl,rfl,rfl,AT⟩ ?_)))))
     obtain⟨ge,hv,ak⟩:∃v,v=gb.drew∧Ext gb v:=⟨_,rfl,aL.drew⟩
     have ey:=bd.trans ak
     have da:=((((((((dx.ext (cj.t (av.t (L.t D)))).vN H).vN h).ext (o.t (ch.t ae))).vN bj).ext bu).vN cu).ext ak)
     obtain⟨jb,il,ik,ct,_⟩:=iJ (P:=aN) (us:= (a5 az bg bm bf)) (off:=0) aA J da (bq J) J (a5 az bg bm bf) rfl
     have fd:=ct.ext ey fq
     have dh:=(((((((((eh.ext (av.t (L.t D))).vN H).vN h).ext (o.t (ch.t ae))).vN bj).ext bu).vN cu).ext ak).vN ct)
     obtain⟨jk,ib,ie,dz,_⟩:=iJ (P:=aN) (us:= (a5 au ar am ag)) (off:=0) aA J dh (bq J) J (a5 au ar am ag) rfl
     have ew:=dz.ext fd fc
     refine gX bY (w:=ge) [O az bg bm bf,O au ar am ag,undef,undef,I0] [ge,jb,jk] [2,3] [[],[],[0],[1],[]] [[],[],[0],[0,1,2],[0,1,2,3]] [(0,0),(1,0),(1,1),(2,0),(3,1),(4,2)] J hv ?_ ?_
     ·refine bA _ J J J J J (d7 J (bH aA (((ic.ext bu).vN cu).ext ak) (a5 az bg bm bf) J (bq J) J)) (bA _ J J J J J (d7 J (bH aA (fg.ext ak) (a5 au ar am ag) J (bq J) J)) (bA _ J J J J J (d7 J (bH aA ((fg.ext ak).vN ct) (a5 au ar am ag) J (bq J) J)) (iR _ J J J J J (iA J J il) (iR _ J J J J J (iA J J ib) (bA _ J J J J J (lE J) ?_)))))
      exact gW
     clear hv
     refine gG [(4,i5 en 0),(5,i5 ej 0),(6,no 0)] ⟨rfl,rfl,rfl,AT⟩ (aO (aV (aU [O az bg bm bf,O au ar am ag,I0] J ⟨⟨_,rfl,bH aA (ik.vN dz) (a5 az bg bm bf) J (bq J) rfl⟩,⟨_,rfl,bH aA ie (a5 au ar am ag) J (bq J) rfl⟩,rfl,AT⟩ ?_)))
     exact⟨_,rfl,⟨_,_,_,rfl,⟨_,_,_,_,rfl,(((((((ft.updT de bj).ext bu).updT dl cu).ext ak).updT da ct).updT dh dz)).cast (hu.1)⟩,⟨_,_,_,_,rfl,(((((fk.updT dl cu).ext ak).updT da ct).updT dh dz)).cast (hu.2)⟩,rfl⟩,ew⟩
  ·have hu:=DB (q:=x.tdiv y+1) (r:=x.tmod y+(Int.natAbs y:Int)) (x:=x) h0 (by rw [Int.add_mul,Int.one_mul];omega) (by omega)
   refine aF (lo aA ((((ei.ext (el.t (cj.t (av.t (L.t D))))).vN H).vN h).ext o) (a5 sb Ab nb cb) J J J (cl (vs:= [O sb Ab nb cb]) bp (eV (hy.ext bp) (aK lb J)) J (by kernel_rfl) fun _ _ kb Z Y=>?_))
   obtain rfl:=kb
   refine aI J J J false (oF) (a7 (aQ J ?_))
   have ov:ln ((x.tdiv y)+1)≤8589934592:=a8 (dN em (show ln 1≤1 by decide+kernel)) (by decide)
   refine dG bY 3 [] [Is (O V M W U),ZR w.heap.size (1),ZR w.heap.size ((x.tdiv y)+1)] [[],[],[0,1]] [[],[],[0,1],[0,1,2]] rfl
    (aH J J (aE J J ?_) (aH J J (aE J J ?_) (aH J J (aE J J ?_) d9))) ?_
   ·exact fun _ kp=>aC (lo aA ((ck.vN h).ext (o.t (Z.t kp))) (a5 V M W U) J J J (aG J aL J))
   ·intro _ lp
    have e:=Y.trans lp
    refine aC (cl (vs:= [no 1]) e (KI e.size) J (by kernel_rfl) fun _ _ iu ki p=>?_)
    obtain⟨_,_,_,_,rfl,ll⟩:=iu
    exact aG J ki ⟨_,_,_,_,rfl,ll⟩
   ·intro _ gn
    have e:=Y.trans gn
    refine dk J J (aT J J fun _ _ iy _ ju=>?_)
    obtain⟨jt,iv,jv,iz,rfl,dy⟩:=iy
    have dy:=dy.ext ju
    refine aC ?_
    have og:ln ((x.tdiv y)+1)≤8589934592:=a8 (dN em (show ln 1≤1 by decide+kernel)) (by decide)
    refine cl (vs:= [O V M W U,O jt iv jv iz]) e (oO e.size ((((fb.ext (L.t D)).updT X H).updT aa h).ext (o.t (Z.t gn))).zi (fb.le (aK em J)) dy.zi (dy.le (a8 (show ln 1≤1 by decide+kernel) (by decide)))) J (by kernel_rfl) fun _ _ kv jq p=>?_
    obtain⟨_,_,_,_,rfl,kk⟩:=kv
    exact aG J jq ⟨_,_,_,_,rfl,kk⟩
   ·intro _ aj
    have e:=Y.trans aj
    refine dk J J (aT J J fun _ _ kt _ jc=>?_)
    obtain⟨_,_,_,_,rfl,go⟩:=kt
    have go:=go.ext jc
    refine aT J J fun _ _ kw _ ml=>?_
    obtain⟨bi,aw,ba,bo,rfl,fe⟩:=kw
    have fe:=fe.ext ml
    refine aC ?_
    have dr:=((ck.vN h).ext (o.t (Z.t aj)))
    refine so aA dr (a5 bi aw ba bo) e fv J J J J fun _ ia bh p=>(aX (dC (aO (aD ?_))))
    have fh:ln ((Int.natAbs y:Int))≤8589934591:=(by rw [tG];exact Ly)
    have ow:ln ((x.tmod y)+(Int.natAbs y:Int))≤8589934592:=a8 (dN cz fh) (by decide)
    refine dG bY 4 [] [Is (O F E I G),Is (O sb Ab nb cb),ZR w.heap.size ((Int.natAbs y:Int)),ZR w.heap.size ((x.tmod y)+(Int.natAbs y:Int))] [[],[],[1],[0,2]] [[],[],[1],[0,1,2],[0,1,2,3]] rfl
     (aH J J (aE J J ?_) (aH J J (aE J J ?_) (aH J J (aE J J ?_) (aH J J (aE J J ?_) d9)))) ?_
    ·exact fun _ li=>aC (lo aA (((ao.ext (o.t (Z.t aj))).vN bh).ext li) (a5 F E I G) J J J (aG J aL J))
    ·exact fun _ lz=>aC (lo aA ((((((ei.ext (el.t (cj.t (av.t (L.t D))))).vN H).vN h).ext (o.t (Z.t aj))).vN bh).ext lz) (a5 sb Ab nb cb) J J J (aG J aL J))
    ·intro _ jw
     have f:=p.trans jw
     refine dk J J (aC ?_)
     have ot:ln ((Int.natAbs y:Int))≤8589934591:=(by rw [tG];exact Ly)
     refine cl (vs:= [O sb Ab nb cb]) f (KL f.size (hy.ext f) (aK lb J)) J (by kernel_rfl) fun _ _ md kc bd=>?_
     obtain⟨_,_,_,_,rfl,lv⟩:=md
     exact aG J kc ⟨_,_,_,_,rfl,lv⟩
    ·intro _ gg
     have f:=p.trans gg
     refine dk J J (aT J J fun _ _ kn _ mb=>?_)
     obtain⟨mo,kz,ks,jj,rfl,eg⟩:=kn
     have eg:=eg.ext mb
     refine aC ?_
     have oe:ln ((x.tmod y)+(Int.natAbs y:Int))≤8589934592:=a8 (dN cz fh) (by decide)
     refine cl (vs:= [O F E I G,O mo kz ks jj]) f (oO f.size ((((((ci.ext (L.t D)).updT X H).updT aa h).ext (o.t (Z.t aj))).updT dr bh).ext gg).zi (ci.le (aK cz J)) eg.zi (eg.le (aK fh J))) J (by kernel_rfl) fun _ _ kf jn bd=>?_
     obtain⟨_,_,_,_,rfl,ja⟩:=kf
     exact aG J jn ⟨_,_,_,_,rfl,ja⟩
    ·intro _ bw
     have f:=p.trans bw
     refine dk J J (dk J J (aT J J fun _ _ kr _ jd=>?_))
     obtain⟨_,_,_,_,rfl,gr⟩:=kr
     have gr:=gr.ext jd
     refine aT J J fun _ _ lu _ ku=>?_
     obtain⟨ah,ai,aq,ap,rfl,fj⟩:=lu
     have fj:=fj.ext ku
     refine aC ?_
     have dg:=(((ao.ext (o.t (Z.t aj))).vN bh).ext bw)
     refine so aA dg (a5 ah ai aq ap) f fm J J J J fun gj fa cp bd=>(aX (dC (aO (aD (bG [(4,i5 en 0),(5,i5 ej 0),(7,i5 fy 0),(8,i5 fx 0)] ⟨rfl,rfl,rfl,rfl,AT⟩ ?_)))))
     obtain⟨gf,hv,ab⟩:∃v,v=gj.drew∧Ext gj v:=⟨_,rfl,aL.drew⟩
     have ey:=bd.trans ab
     have dt:=((((((((dx.ext (cj.t (av.t (L.t D)))).vN H).vN h).ext (o.t (Z.t aj))).vN bh).ext bw).vN cp).ext ab)
     obtain⟨iw,im,io,cm,_⟩:=iJ (P:=aN) (us:= (a5 bi aw ba bo)) (off:=0) aA J dt (bq J) J (a5 bi aw ba bo) rfl
     have fd:=cm.ext ey fq
     have dm:=(((((((((eh.ext (av.t (L.t D))).vN H).vN h).ext (o.t (Z.t aj))).vN bh).ext bw).vN cp).ext ab).vN cm)
     obtain⟨jr,ij,ig,dw,_⟩:=iJ (P:=aN) (us:= (a5 ah ai aq ap)) (off:=0) aA J dm (bq J) J (a5 ah ai aq ap) rfl
     have ew:=dw.ext fd fc
     refine gX bY (w:=gf) [O bi aw ba bo,O ah ai aq ap,undef,undef,I0] [gf,iw,jr] [2,3] [[],[],[0],[1],[]] [[],[],[0],[0,1,2],[0,1,2,3]] [(0,0),(1,0),(1,1),(2,0),(3,1),(4,2)] J hv ?_ ?_
     ·refine bA _ J J J J J (d7 J (bH aA (((ia.ext bw).vN cp).ext ab) (a5 bi aw ba bo) J (bq J) J)) (bA _ J J J J J (d7 J (bH aA (fa.ext ab) (a5 ah ai aq ap) J (bq J) J)) (bA _ J J J J J (d7 J (bH aA ((fa.ext ab).vN cm) (a5 ah ai aq ap) J (bq J) J)) (iR _ J J J J J (iA J J im) (iR _ J J J J J (iA J J ij) (bA _ J J J J J (lE J) ?_)))))
      exact gW
     clear hv
     refine gG [(4,i5 en 0),(5,i5 ej 0),(6,no 0)] ⟨rfl,rfl,rfl,AT⟩ (aO (aV (aU [O bi aw ba bo,O ah ai aq ap,I0] J ⟨⟨_,rfl,bH aA (io.vN dw) (a5 bi aw ba bo) J (bq J) rfl⟩,⟨_,rfl,bH aA ig (a5 ah ai aq ap) J (bq J) rfl⟩,rfl,AT⟩ ?_)))
     exact⟨_,rfl,⟨_,_,_,rfl,⟨_,_,_,_,rfl,(((((((fe.updT dr bh).ext bw).updT dg cp).ext ab).updT dt cm).updT dm dw)).cast (hu.1)⟩,⟨_,_,_,_,rfl,(((((fj.updT dg cp).ext ab).updT dt cm).updT dm dw)).cast (hu.2)⟩,rfl⟩,ew⟩
theorem VN {nb:Nat}(hb:b≤w.heap.size)(hx:Zi w sa Aa na ca x)(la:na≤8589934591)(hy:Zi w sb Ab nb cb y)(lb:nb≤8589934591)(h0:y≠0):aP aN 137 #[O sa Aa na ca,O sb Ab nb cb] w (Gv w (T2 (ZR b (x%y)) (Is (no 0)))):=by
 refine Calls.mono (R:=Gv w (T2 (ZR w.heap.size (x%y)) (Is (no 0)))) ?_ (Gv.imp (T2.imp (ZR.imp hb) Is.imp))
 have Lx:ln x≤8589934591:=a8 hx.ln la
 have Ly:ln y≤8589934591:=a8 hy.ln lb
 refine bN Tryz.func137 J (n:=18) J (bq J) (args:= [O sa Aa na ca,O sb Ab nb cb]) (bG [(0,O sa Aa na ca),(1,O sb Ab nb cb)] ⟨rfl,rfl,AT⟩ (sr (bx (a5 sa Aa na ca) (Ext.refl w) J J J fun _ _ V _ _ bd=>(fG (a5 sb Ab nb cb) bd V.lt J J J fun _ _ ag _ _ e8 ba=>(bL [F0,S0] ba ag.lt (fun _=>by kernel_rfl) J fun _ _ G W _ Z q=>(mv 1 J (a7 (sr (lo aA (V.ext (e8.t Z)) (a5 sa Aa na ca) J J J (lo aA (ag.ext Z) (a5 sb Ab nb cb) J J J ?_))))))))))
 have bg:ln (x/y)≤8589934592:=CO Lx
 have bf:ln (x%y)≤8589934591:=a8 (rH (h:=h0)) Ly
 refine cl (vs:= [O sa Aa na ca,O sb Ab nb cb]) q (CQ q.size (hx.ext q) (aK la J) (hy.ext q) (aK lb J) h0) J (by kernel_rfl) fun _ _ au M ap=>?_
 obtain⟨_,_,_,rfl,⟨X,aa,ah,ak,rfl,_⟩,⟨e,p,o,f,rfl,av⟩,rfl⟩:=au
 refine mv 1 J (pu (v:= O X aa ah ak) J (pu (v:= O e p o f) J (pu (v:= no 0) J (bL [F0,S0] ap (G.ext M).lt (fun _=>by kernel_rfl) J fun _ _ F L _ ae am=>(bL [F0,S0] am F.lt (fun _=>by kernel_rfl) J fun _ _ U ab _ I az=>?_)))))
 have r:=(F.ext I)
 refine so aA r (a5 X aa ah ak) az L J J J J fun _ _ H ar=>?_
 have E:=(U.vN H)
 refine so aA E (a5 e p o f) ar ab J J J J fun _ aj Y aw=>(mv 1 J (a7 (sr (lo aA aj (a5 e p o f) J J J (mv 1 J ?_)))))
 have D:=(((G.ext (M.t (ae.t I))).vN H).vN Y)
 refine so aA D (a5 e p o f) aw W J J J J fun _ ai ao aq=>(mv 1 J (a7 (aV (aU [O e p o f,I0] J ⟨⟨_,rfl,bH aA ai (a5 e p o f) J (bq J) rfl⟩,rfl,AT⟩ ?_))))
 exact⟨_,rfl,⟨_,_,rfl,⟨_,_,_,_,rfl,((((av.ext (ae.t I)).updT r H).updT E Y).updT D ao)⟩,rfl⟩,aq⟩
theorem rP {nb:Nat}(hb:b≤w.heap.size)(hx:Zi w sa Aa na ca x)(la:na≤8589934591)(hy:Zi w sb Ab nb cb y)(lb:nb≤8589934591):aP aN 158 #[O sa Aa na ca,O sb Ab nb cb] w (Gv w (ZR b ((Int.gcd x y:Int)))):=by
 refine Calls.mono (R:=Gv w (ZR w.heap.size ((Int.gcd x y:Int)))) ?_ (Gv.imp (ZR.imp hb))
 have Lx:ln x≤8589934591:=a8 hx.ln la
 have Ly:ln y≤8589934591:=a8 hy.ln lb
 refine bN Tryz.func158 J (n:=13) J (bq J) (args:= [O sa Aa na ca,O sb Ab nb cb]) (bG [(0,O sa Aa na ca),(1,O sb Ab nb cb)] ⟨rfl,rfl,AT⟩ (sr (bx (a5 sa Aa na ca) (Ext.refl w) J J J fun g1 _ q _ _ Y=>(fG (a5 sb Ab nb cb) Y q.lt J J J fun Z _ E _ _ e8 X=>(bL [F0,S0] X E.lt (fun _=>by kernel_rfl) J fun _ _ F r _ D f=>(a7 (sr (pf g1 1 J (bB J J (bM dS (q.ext (e8.t D)) J) (pf Z 1 J (bB J J (bM dS (E.ext D) J) ?_)))))))))))
 have aa:(wd (Nat.gcd (Int.natAbs x) (Int.natAbs y))).length≤8589934591:=a8 (gU x y) (Nat.max_le.2 ⟨Lx,Ly⟩)
 refine cl (vs:= [we Aa na ca,we Ab nb cb]) f (WS f.size (hx.ext f).wi (aK la J) (hy.ext f).wi (aK lb J)) J (by kernel_rfl) fun _ _ W V M=>?_
 obtain⟨o,h,e,rfl,L,I⟩:=W
 refine mv 1 J (a7 (sr (mv 1 J (pu (v:= .agg #[F0,we o h e]) J ?_))))
 have p:=(F.ext V)
 refine so aA p [F0,we o h e] M r J J J J fun _ G U H=>(a7 (aV (aU [.agg #[F0,we o h e]] J ⟨⟨_,rfl,bH aA G [F0,we o h e] J (bq J) rfl⟩,AT⟩ ?_)))
 exact⟨_,rfl,⟨_,_,_,_,rfl,(((pY L I).updT p U)).cast (J)⟩,H⟩
def jS (x y:Int):Int:=if y<0 then-(Int.gcd x y:Int) else (Int.gcd x y:Int)
def bP (x y:Int):Int:=if y=0 then 0 else x.tdiv (jS x y)
def bS (x y:Int):Int:=if y=0 then 0 else y.tdiv (jS x y)
def bI (y:Int):Int:=if y=0 then 4 else 0
theorem xS (x y:Int):(jS x y).natAbs=Int.gcd x y:=by unfold jS;split <;> omega
theorem uX (h:y≠0):jS x y≠0:=by
 have h1:=xS x y
 have h2:=Int.gcd_pos_of_ne_zero_right x h
 omega
theorem CD (x y:Int):x.natAbs%(jS x y).natAbs=0:=by rw [xS];exact Nat.mod_eq_zero_of_dvd (Int.gcd_dvd_natAbs_left x y)
theorem CC (x y:Int):y.natAbs%(jS x y).natAbs=0:=by rw [xS];exact Nat.mod_eq_zero_of_dvd (Int.gcd_dvd_natAbs_right x y)
theorem fR (hx:ln x≤N):ln (bP x y)≤N:=by
 unfold bP;split
 ·exact bJ _
 ·exact a8 (iW _ _) hx
theorem fY (hy:ln y≤N):ln (bS x y)≤N:=by
 unfold bS;split
 ·exact bJ _
 ·exact a8 (iW _ _) hy
theorem JW (hb:b≤w.heap.size)(hx:Zi w sa Aa na ca x)(la:na≤8589934591):aP aN 47 #[O sa Aa na ca] w (Gv w (ZR b (-x))):=by
 refine Calls.mono (R:=Gv w (ZR w.heap.size (-x))) ?_ (Gv.imp (ZR.imp hb))
 have Lx:ln x≤8589934591:=a8 hx.ln la
 refine bN Tryz.func47 J (n:=9) J (bq J) (args:= [O sa Aa na ca]) (bG [(0,O sa Aa na ca)] ⟨rfl,AT⟩ (sr (bx (a5 sa Aa na ca) (Ext.refl w) J J J fun W _ p _ _ V=>(bL [F0,S0] V p.lt (fun _=>by kernel_rfl) J fun _ _ G D _ X h=>(a7 (sr (pf W 0 J (bB J J (bM fM (p.ext X) J) (pu (v:= .bool (!sa)) J (pf W 1 J (bB J J (bM dS (p.ext X) J) ?_)))))))))))
 have Y:ln (sg (!sa) (Int.natAbs x))≤8589934591:=by rw [iQ];exact Lx
 refine cl (vs:= [.bool (!sa),we Aa na ca]) h (jD h.size (hx.ext h).wi (aK la J)) J (by kernel_rfl) fun _ _ H F L=>?_
 obtain⟨q,o,r,f,rfl,I⟩:=H
 have e:=(G.ext F)
 refine so aA e (a5 q o r f) L D J J J J fun _ E U M=>(a7 (aV (aU [O q o r f] J ⟨⟨_,rfl,bH aA E (a5 q o r f) J (bq J) rfl⟩,AT⟩ ?_)))
 exact⟨_,rfl,⟨_,_,_,_,rfl,((I.updT e U)).cast ((xF _ _).trans (by rw [hx.sg]))⟩,M⟩
theorem pL {nb:Nat}(hb:b≤w.heap.size)(hx:Zi w sa Aa na ca x)(la:na≤1073741824)(hy:Zi w sb Ab nb cb y)(lb:nb≤1073741824):aP aN 82 #[O sa Aa na ca,O sb Ab nb cb] w (Gv w (T2 (FR b (bP x y) (bS x y)) (Is (no (bI y))))):=by
 refine Calls.mono (R:=Gv w (T2 (FR w.heap.size (bP x y) (bS x y)) (Is (no (bI y))))) ?_ (Gv.imp (T2.imp (FR.imp hb) Is.imp))
 have Lx:ln x≤1073741824:=a8 hx.ln la
 have Ly:ln y≤1073741824:=a8 hy.ln lb
 refine bN Tryz.func82 J (n:=39) J (bq J) (args:= [O sa Aa na ca,O sb Ab nb cb]) (bG [(0,O sa Aa na ca),(1,O sb Ab nb cb)] ⟨rfl,rfl,AT⟩ (sr (bx (a5 sa Aa na ca) (Ext.refl w) J J J fun _ _ ba _ _ ge=>(fG (a5 sb Ab nb cb) ge ba.lt J J J fun _ _ ar _ _ e8 gn=>(bL [F0,S0,F0,S0] gn ar.lt (fun _=>by kernel_rfl) J fun _ _ W cj _ G fd=>(mv 1 J (a7 (sr (lo aA (ar.ext G) (a5 sb Ab nb cb) J J J (cl (vs:= [O sb Ab nb cb]) fd (eV (hy.ext fd) (aK lb J)) J (by kernel_rfl) fun _ _ gk e F=>?_))))))))))
 obtain rfl:=gk
 refine mv 1 J (a7 (aD (aD ?_)))
 by_cases h0:y=0
 ·refine aF (mv 1 J (aI J J J true (GB h0) (a7 (aW J (sr (pu (v:= .agg #[F0,S0,F0,S0]) J ?_))))))
  have gb:=(W.ext e)
  refine so bC gb [F0,S0,F0,S0] F cj J J J J fun fv fh _ da=>(mv 1 J (a7 (aV (bR (aU [.agg #[F0,S0,F0,S0],no 4] J ⟨⟨_,rfl,bH bC fh [F0,S0,F0,S0] J (bq J) rfl⟩,rfl,AT⟩ ?_)))))
  exact⟨_,rfl,⟨_,_,rfl,⟨_,_,_,_,_,_,_,_,rfl,((Zr.zero (w:=fv) (base:=w.heap.size))).cast (by simp only [bP,bS,if_pos h0]),((Zr.zero (w:=fv) (base:=w.heap.size))).cast (by simp only [bP,bS,if_pos h0])⟩,(show (no 4:aM)=_ by simp only [bI,if_pos h0])⟩,da⟩
 ·by_cases hs:y<0
  ·have hG: -(Int.gcd x y:Int)=jS x y:=by unfold jS;rw [if_pos hs]
   refine aF (mv 1 J (aI J J J false (qW h0) (a7 (aQ J (aY (aO (sr (lo aA (ba.ext (e8.t (G.t e))) (a5 sa Aa na ca) J J J (lo aA (ar.ext (G.t e)) (a5 sb Ab nb cb) J J J ?_)))))))))
   have ft:ln ((Int.gcd x y:Int))≤1073741824:=a8 (gU _ _) (Nat.max_le.2 ⟨a8 Lx (by decide),a8 Ly (by decide)⟩)
   refine cl (vs:= [O sa Aa na ca,O sb Ab nb cb]) F (rP F.size (hx.ext F) (aK la J) (hy.ext F) (aK lb J)) J (by kernel_rfl) fun _ _ gf dh da=>?_
   obtain⟨em,ei,ez,ew,rfl,fi⟩:=gf
   refine bL [F0,S0] da (W.ext (e.t dh)).lt (fun _=>by kernel_rfl) J fun _ _ eg eh _ df fa=>(so aA eg (a5 em ei ez ew) fa eh J J J J fun _ dy dx au=>(a7 (aD (sr (mv 1 J (aI J J J true (sW hs) (a7 (aW J (aF (lo aA dy (a5 em ei ez ew) J J J ?_))))))))))
   have fx:ln (-(Int.gcd x y:Int))≤1073741824:=by rw [g0];exact ft
   refine cl (vs:= [O em ei ez ew]) au (JW au.size ((fi.ext df).updT eg dx).zi (fi.le (aK ft J))) J (by kernel_rfl) fun _ _ gg dl fb=>?_
   obtain⟨bf,bg,de,bh,rfl,dr⟩:=gg
   have cm:=(dy.ext dl)
   refine so aA cm (a5 bf bg de bh) fb eh J J J J fun _ az cu bu=>(a7 (sr (lo aA ((((ba.ext (e8.t (G.t (e.t (dh.t df))))).vN dx).ext dl).vN cu) (a5 sa Aa na ca) J J J (lo aA az (a5 bf bg de bh) J J J ?_))))
   have ib:ln (x.tdiv (-(Int.gcd x y:Int)))≤1073741824:=a8 (iW _ _) Lx
   refine cl (vs:= [O sa Aa na ca,O bf bg de bh]) bu (yL bu.size (hx.ext bu) (aK la J) (dr.updT cm cu).zi (dr.le (aK fx J)) (by rw [hG];exact uX h0) (by rw [hG];exact CD x y)) J (by kernel_rfl) fun _ _ gi bp M=>?_
   obtain⟨_,_,rfl,⟨ag,ak,ai,ah,rfl,gr⟩,rfl⟩:=gi
   refine mv 1 J (pu (v:= O ag ak ai ah) J (pu (v:= no 0) J (bL [F0,S0] M (az.ext bp).lt (fun _=>by kernel_rfl) J fun _ _ bd fm _ ct cp=>(so aA bd (a5 ag ak ai ah) cp fm J J J J fun _ dz cz I=>(mv 1 J (a7 (sr (lo aA ((((((ar.ext (G.t (e.t (dh.t df)))).vN dx).ext dl).vN cu).ext (bp.t ct)).vN cz) (a5 sb Ab nb cb) J J J (lo aA ((az.ext (bp.t ct)).vN cz) (a5 bf bg de bh) J J J ?_)))))))))
   have ic:ln (y.tdiv (-(Int.gcd x y:Int)))≤1073741824:=a8 (iW _ _) Ly
   refine cl (vs:= [O sb Ab nb cb,O bf bg de bh]) I (yL I.size (hy.ext I) (aK lb J) (((dr.updT cm cu).ext (bp.t ct)).updT bd cz).zi (dr.le (aK fx J)) (by rw [hG];exact uX h0) (by rw [hG];exact CC x y)) J (by kernel_rfl) fun _ _ gx dm cv=>?_
   obtain⟨_,_,rfl,⟨aj,am,aa,Z,rfl,gj⟩,rfl⟩:=gx
   refine mv 1 J (pu (v:= O aj am aa Z) J (pu (v:= no 0) J (bL [F0,S0] cv (dz.ext dm).lt (fun _=>by kernel_rfl) J fun _ _ bj fj _ dg ck=>(so aA bj (a5 aj am aa Z) ck fj J J J J fun _ fp du fy=>(mv 1 J (a7 (sr (lo aA ((dz.ext (dm.t dg)).vN du) (a5 ag ak ai ah) J J J (lo aA fp (a5 aj am aa Z) J J J (pu (v:= a9 ag ak ai ah aj am aa Z) J ?_))))))))))
   have bo:=((((((((W.ext (e.t (dh.t df))).vN dx).ext dl).vN cu).ext (bp.t ct)).vN cz).ext (dm.t dg)).vN du)
   refine so bC bo [.bool ag,we ak ai ah,.bool aj,we am aa Z] fy cj J J J J fun _ fz fo fe=>(mv 1 J (a7 (aV (aU [a9 ag ak ai ah aj am aa Z,I0] J ⟨⟨_,rfl,bH bC fz [.bool ag,we ak ai ah,.bool aj,we am aa Z] J (bq J) rfl⟩,rfl,AT⟩ ?_))))
   exact⟨_,rfl,⟨_,_,rfl,⟨_,_,_,_,_,_,_,_,rfl,((((((gr.ext ct).updT bd cz).ext (dm.t dg)).updT bj du).updT bo fo)).cast (by simp only [bP,bS,if_neg h0,hG]),((((gj.ext dg).updT bj du).updT bo fo)).cast (by simp only [bP,bS,if_neg h0,hG])⟩,(show (no 0:aM)=_ by simp only [bI,if_neg h0])⟩,fe⟩
  ·have hG:(Int.gcd x y:Int)=jS x y:=by unfold jS;rw [if_neg hs]
   refine aF (mv 1 J (aI J J J false (qW h0) (a7 (aQ J (aY (aO (sr (lo aA (ba.ext (e8.t (G.t e))) (a5 sa Aa na ca) J J J (lo aA (ar.ext (G.t e)) (a5 sb Ab nb cb) J J J ?_)))))))))
   have fg:ln ((Int.gcd x y:Int))≤1073741824:=a8 (gU _ _) (Nat.max_le.2 ⟨a8 Lx (by decide),a8 Ly (by decide)⟩)
   refine cl (vs:= [O sa Aa na ca,O sb Ab nb cb]) F (rP F.size (hx.ext F) (aK la J) (hy.ext F) (aK lb J)) J (by kernel_rfl) fun _ _ go dt da=>?_
   obtain⟨bi,bw,ci,bm,rfl,dw⟩:=go
   refine bL [F0,S0] da (W.ext (e.t dt)).lt (fun _=>by kernel_rfl) J fun _ _ aw fc _ fB fa=>(so aA aw (a5 bi bw ci bm) fa fc J J J J fun _ Y L au=>(a7 (aD (sr (mv 1 J (aI J J J false (sX) (a7 (aQ J (aY (aO (sr (lo aA ((ba.ext (e8.t (G.t (e.t (dt.t fB))))).vN L) (a5 sa Aa na ca) J J J (lo aA Y (a5 bi bw ci bm) J J J ?_)))))))))))))
   have gy:ln (x.tdiv (Int.gcd x y:Int))≤1073741824:=a8 (iW _ _) Lx
   refine cl (vs:= [O sa Aa na ca,O bi bw ci bm]) au (yL au.size (hx.ext au) (aK la J) ((dw.ext fB).updT aw L).zi (dw.le (aK fg J)) (by rw [hG];exact uX h0) (by rw [hG];exact CD x y)) J (by kernel_rfl) fun _ _ fq U fb=>?_
   obtain⟨_,_,rfl,⟨o,h,E,D,rfl,fk⟩,rfl⟩:=fq
   refine mv 1 J (pu (v:= O o h E D) J (pu (v:= no 0) J (bL [F0,S0] fb (Y.ext U).lt (fun _=>by kernel_rfl) J fun _ _ X en _ V bu=>(so aA X (a5 o h E D) bu en J J J J fun _ ch H M=>(mv 1 J (a7 (sr (lo aA ((((ar.ext (G.t (e.t (dt.t fB)))).vN L).ext (U.t V)).vN H) (a5 sb Ab nb cb) J J J (lo aA ((Y.ext (U.t V)).vN H) (a5 bi bw ci bm) J J J ?_)))))))))
   have ia:ln (y.tdiv (Int.gcd x y:Int))≤1073741824:=a8 (iW _ _) Ly
   refine cl (vs:= [O sb Ab nb cb,O bi bw ci bm]) M (yL M.size (hy.ext M) (aK lb J) ((((dw.ext fB).updT aw L).ext (U.t V)).updT X H).zi (dw.le (aK fg J)) (by rw [hG];exact uX h0) (by rw [hG];exact CC x y)) J (by kernel_rfl) fun _ _ fw ap cp=>?_
   obtain⟨_,_,rfl,⟨q,r,p,f,rfl,ga⟩,rfl⟩:=fw
   refine mv 1 J (pu (v:= O q r p f) J (pu (v:= no 0) J (bL [F0,S0] cp (ch.ext ap).lt (fun _=>by kernel_rfl) J fun _ _ ab ey _ aq I=>(so aA ab (a5 q r p f) I ey J J J J fun _ el ao cv=>(mv 1 J (a7 (sr (lo aA ((ch.ext (ap.t aq)).vN ao) (a5 o h E D) J J J (lo aA el (a5 q r p f) J J J (pu (v:= a9 o h E D q r p f) J ?_))))))))))
   have ae:=((((((W.ext (e.t (dt.t fB))).vN L).ext (U.t V)).vN H).ext (ap.t aq)).vN ao)
   refine so bC ae [.bool o,we h E D,.bool q,we r p f] cv cj J J J J fun _ ej ef ck=>(mv 1 J (a7 (aV (aU [a9 o h E D q r p f,I0] J ⟨⟨_,rfl,bH bC ej [.bool o,we h E D,.bool q,we r p f] J (bq J) rfl⟩,rfl,AT⟩ ?_))))
   exact⟨_,rfl,⟨_,_,rfl,⟨_,_,_,_,_,_,_,_,rfl,((((((fk.ext V).updT X H).ext (ap.t aq)).updT ab ao).updT ae ef)).cast (by simp only [bP,bS,if_neg h0,hG]),((((ga.ext aq).updT ab ao).updT ae ef)).cast (by simp only [bP,bS,if_neg h0,hG])⟩,(show (no 0:aM)=_ by simp only [bI,if_neg h0])⟩,ck⟩
theorem C1 {nb:Nat}{nd:Nat}(hx:Zi w sa Aa na ca x)(la:na≤268435456)(hy:Zi w sb Ab nb cb y)(lb:nb≤268435456)(hu:Zi w sd Ad nd cd u)(ld:nd≤268435456)(hv:Zi w se Ae ne ce v)(le:ne≤268435456)(hy0:y≠0)(hv0:v≠0):aP aN 159 #[a9 sa Aa na ca sb Ab nb cb,a9 sd Ad nd cd se Ae ne ce] w (Gv w (Is (AI))):=by
 have Lx:ln x≤268435456:=a8 hx.ln la
 have Ly:ln y≤268435456:=a8 hy.ln lb
 have Lu:ln u≤268435456:=a8 hu.ln ld
 have Lv:ln v≤268435456:=a8 hv.ln le
 refine bN Tryz.func159 J (n:=15) J (bq J) (args:= [a9 sa Aa na ca sb Ab nb cb,a9 sd Ad nd cd se Ae ne ce]) (bG [(0,a9 sa Aa na ca sb Ab nb cb),(1,a9 sd Ad nd cd se Ae ne ce)] ⟨rfl,rfl,AT⟩ (sr (bx [.bool sa,we Aa na ca,.bool sb,we Ab nb cb] (Ext.refl w) J J J fun F _ e _ _ E=>(fG [.bool sd,we Ad nd cd,.bool se,we Ae ne ce] E e.lt J J J fun G _ p _ _ H h=>(mv 1 J (a7 (sr (pf F 2 J (lo aA (e.ext H) (a5 sb Ab nb cb) J J J (cl (vs:= [O sb Ab nb cb]) h (eV (hy.ext h) (aK lb J)) J (by kernel_rfl) fun _ _ r o f=>?_))))))))))
 obtain rfl:=r
 refine aI J J J true (lT hy0) (mv 1 J (pf G 2 J (lo aA (p.ext o) (a5 se Ae ne ce) J J J (cl (vs:= [O se Ae ne ce]) f (eV (hv.ext f) (aK le J)) J (by kernel_rfl) fun _ _ q _ D=>?_))))
 obtain rfl:=q
 refine aI J J J true (lT hv0) (pu (v:= AI) J (mv 1 J (a7 (aV (aU [AI] J ⟨rfl,AT⟩ ?_)))))
 exact⟨_,rfl,rfl,D⟩
theorem xQ {nb:Nat}{nd:Nat}(hx:Zi w sa Aa na ca x)(la:na≤268435456)(hy:Zi w sb Ab nb cb y)(lb:nb≤268435456)(hu:Zi w sd Ad nd cd u)(ld:nd≤268435456)(hv:Zi w se Ae ne ce v)(le:ne≤268435456)(h0:y=0∨v=0):aP aN 159 #[a9 sa Aa na ca sb Ab nb cb,a9 sd Ad nd cd se Ae ne ce] w (Gv w (Is (AS))):=by
 have Lx:ln x≤268435456:=a8 hx.ln la
 have Ly:ln y≤268435456:=a8 hy.ln lb
 have Lu:ln u≤268435456:=a8 hu.ln ld
 have Lv:ln v≤268435456:=a8 hv.ln le
 refine bN Tryz.func159 J (n:=15) J (bq J) (args:= [a9 sa Aa na ca sb Ab nb cb,a9 sd Ad nd cd se Ae ne ce]) (bG [(0,a9 sa Aa na ca sb Ab nb cb),(1,a9 sd Ad nd cd se Ae ne ce)] ⟨rfl,rfl,AT⟩ (sr (bx [.bool sa,we Aa na ca,.bool sb,we Ab nb cb] (Ext.refl w) J J J fun H _ h _ _ G=>(fG [.bool sd,we Ad nd cd,.bool se,we Ae ne ce] G h.lt J J J fun L _ q _ _ I f=>(mv 1 J (a7 (aD ?_)))))))
 by_cases o:y=0
 ·refine aF (pf H 2 J (lo aA (h.ext I) (a5 sb Ab nb cb) J J J (cl (vs:= [O sb Ab nb cb]) f (eV (hy.ext f) (aK lb J)) J (by kernel_rfl) fun _ _ D _ e=>?_)))
  obtain rfl:=D
  refine aI J J J false (lC o) (mv 5 J (pu (v:= AS) J (mv 1 J (a7 (aV (aU [F0] J ⟨rfl,AT⟩ ?_))))))
  exact⟨_,rfl,rfl,e⟩
 ·refine aF (pf H 2 J (lo aA (h.ext I) (a5 sb Ab nb cb) J J J (cl (vs:= [O sb Ab nb cb]) f (eV (hy.ext f) (aK lb J)) J (by kernel_rfl) fun _ _ r p e=>?_)))
  obtain rfl:=r
  refine aI J J J true (lT o) (mv 1 J (pf L 2 J (lo aA (q.ext p) (a5 se Ae ne ce) J J J (cl (vs:= [O se Ae ne ce]) e (eV (hv.ext e) (aK le J)) J (by kernel_rfl) fun _ _ E _ F=>?_))))
  obtain rfl:=E
  refine aI J J J false (lC (by omega)) (pu (v:= AS) J (mv 1 J (a7 (aV (aU [F0] J ⟨rfl,AT⟩ ?_)))))
  exact⟨_,rfl,rfl,F⟩
theorem I9 {nb:Nat}{nd:Nat}(hb:b≤w.heap.size)(hx:Zi w sa Aa na ca x)(la:na≤268435456)(hy:Zi w sb Ab nb cb y)(lb:nb≤268435456)(hu:Zi w sd Ad nd cd u)(ld:nd≤268435456)(hv:Zi w se Ae ne ce v)(le:ne≤268435456):aP aN 83 #[a9 sa Aa na ca sb Ab nb cb,a9 sd Ad nd cd se Ae ne ce] w (Gv w (T2 (FR b (bP (x*v+u*y) (y*v)) (bS (x*v+u*y) (y*v))) (Is (no (bI (y*v)))))):=by
 refine Calls.mono (R:=Gv w (T2 (FR w.heap.size (bP (x*v+u*y) (y*v)) (bS (x*v+u*y) (y*v))) (Is (no (bI (y*v)))))) ?_ (Gv.imp (T2.imp (FR.imp hb) Is.imp))
 have Lx:ln x≤268435456:=a8 hx.ln la
 have Ly:ln y≤268435456:=a8 hy.ln lb
 have Lu:ln u≤268435456:=a8 hu.ln ld
 have Lv:ln v≤268435456:=a8 hv.ln le
 refine bN Tryz.func83 J (n:=31) J (bq J) (args:= [a9 sa Aa na ca sb Ab nb cb,a9 sd Ad nd cd se Ae ne ce]) (bG [(0,a9 sa Aa na ca sb Ab nb cb),(1,a9 sd Ad nd cd se Ae ne ce)] ⟨rfl,rfl,AT⟩ (sr (bx [.bool sa,we Aa na ca,.bool sb,we Ab nb cb] (Ext.refl w) J J J fun g1 _ E _ _ ga=>(fG [.bool sd,we Ad nd cd,.bool se,we Ae ne ce] ga E.lt J J J fun g6 _ G _ _ e8 gi=>(bL [F0,S0,F0,S0] gi G.lt (fun _=>by kernel_rfl) J fun _ _ ai bd _ o h=>(mv 1 J (a7 (aD (aD ?_)))))))))
 by_cases h0:y=0∨v=0
 ·have hz:y*v=0:=Int.mul_eq_zero.2 h0
  refine aF (lo bC (E.ext (e8.t o)) [.bool sa,we Aa na ca,.bool sb,we Ab nb cb] J J J (lo bC (G.ext o) [.bool sd,we Ad nd cd,.bool se,we Ae ne ce] J J J (cl (vs:= [a9 sa Aa na ca sb Ab nb cb,a9 sd Ad nd cd se Ae ne ce]) h (xQ (hx.ext h) (aK la J) (hy.ext h) (aK lb J) (hu.ext h) (aK ld J) (hv.ext h) (aK le J) h0) J (by kernel_rfl) fun _ _ gg gf F=>?_)))
  obtain rfl:=gg
  refine pu (v:= AI) J (a7 (aW J (sr (pu (v:= .agg #[F0,S0,F0,S0]) J ?_))))
  have fp:=(ai.ext gf)
  refine so bC fp [F0,S0,F0,S0] F bd J J J J fun el da _ ch=>(mv 1 J (a7 (aV (bR (aU [.agg #[F0,S0,F0,S0],no 4] J ⟨⟨_,rfl,bH bC da [F0,S0,F0,S0] J (bq J) rfl⟩,rfl,AT⟩ ?_)))))
  exact⟨_,rfl,⟨_,_,rfl,⟨_,_,_,_,_,_,_,_,rfl,((Zr.zero (w:=el) (base:=w.heap.size))).cast (by simp only [bP,bS,if_pos hz]),((Zr.zero (w:=el) (base:=w.heap.size))).cast (by simp only [bP,bS,if_pos hz])⟩,(show (no 4:aM)=_ by simp only [bI,if_pos hz])⟩,ch⟩
 ·have fz:y≠0:=fun e=>h0 (cH e)
  have gc:v≠0:=fun e=>h0 (cO e)
  refine aF (lo bC (E.ext (e8.t o)) [.bool sa,we Aa na ca,.bool sb,we Ab nb cb] J J J (lo bC (G.ext o) [.bool sd,we Ad nd cd,.bool se,we Ae ne ce] J J J (cl (vs:= [a9 sa Aa na ca sb Ab nb cb,a9 sd Ad nd cd se Ae ne ce]) h (C1 (hx.ext h) (aK la J) (hy.ext h) (aK lb J) (hu.ext h) (aK ld J) (hv.ext h) (aK le J) fz gc) J (by kernel_rfl) fun _ _ go p F=>?_)))
  obtain rfl:=go
  refine pu (v:= AS) J (a7 (aQ J (aY (aO (sr (pf g6 0 J (lo aA (G.ext (o.t p)) (a5 sd Ad nd cd) J J J (pf g1 2 J (lo aA (E.ext (e8.t (o.t p))) (a5 sb Ab nb cb) J J J ?_)))))))))
  have bw:ln (u*y)≤536870912:=a8 (cK Lu Ly) (by decide)
  refine cl (vs:= [O sd Ad nd cd,O sb Ab nb cb]) F (pS F.size (hu.ext F) (aK ld J) (hy.ext F) (aK lb J)) J (by kernel_rfl) fun _ _ fw L ch=>?_
  obtain⟨ao,aj,ap,aq,rfl,dg⟩:=fw
  refine bL [F0,S0] ch (ai.ext (p.t L)).lt (fun _=>by kernel_rfl) J fun _ _ aw cu _ I ge=>(so aA aw (a5 ao aj ap aq) ge cu J J J J fun _ fd H am=>(a7 (aD ?_)))
  have ci:ln (x*v+(u*y))≤536870913:=a8 (dN (cK Lx Lv) bw) (by decide)
  have bu:ln (y*v)≤536870912:=a8 (cK Ly Lv) (by decide)
  have ib:ln (bP (x*v+(u*y)) (y*v))≤536870913:=fR ci
  have ic:ln (bS (x*v+(u*y)) (y*v))≤536870912:=fY bu
  refine dG bY 14 [12,13] [Is (i5 g1 0),Is (O sa Aa na ca),Is (i5 g6 2),Is (O se Ae ne ce),Is (O ao aj ap aq),ZR w.heap.size (x*v+(u*y)),Is (i5 g1 2),Is (O sb Ab nb cb),Is (i5 g6 2),Is (O se Ae ne ce),ZR w.heap.size (y*v),T2 (FR w.heap.size (bP (x*v+(u*y)) (y*v)) (bS (x*v+(u*y)) (y*v))) (Is (no (bI (y*v)))),fun v' w'=>∃s0 A0 n0 c0 s1 A1 n1 c1,v'= a9 s0 A0 n0 c0 s1 A1 n1 c1∧Zr w' w.heap.size s0 A0 n0 c0 (bP (x*v+(u*y)) (y*v))∧Zr w' w.heap.size s1 A1 n1 c1 (bS (x*v+(u*y)) (y*v)),Is (no (bI (y*v)))] [[],[0],[],[2],[],[1,3,4],[],[6],[],[8],[7,9],[5,10],[11],[11]] [[],[0],[],[2],[],[0,1,2,3,4],[],[6],[],[8],[0,1,2,3,4,5,6,7,8,9],[0,1,2,3,4,5,6,7,8,9,10],[0,1,2,3,4,5,6,7,8,9,10,11],[0,1,2,3,4,5,6,7,8,9,10,11],[0,1,2,3,4,5,6,7,8,9,10,11,12,13],[0,1,2,3,4,5,6,7,8,9,10,11,12,13,14]] rfl
   (aH J J (aE J J ?_) (aH J J (aE J J ?_) (aH J J (aE J J ?_) (aH J J (aE J J ?_) (aH J J (aE J J ?_) (aH J J (aE J J ?_) (aH J J (aE J J ?_) (aH J J (aE J J ?_) (aH J J (aE J J ?_) (aH J J (aE J J ?_) (aH J J (aE J J ?_) (aH J J (aE J J ?_) (fD J J (fE J ?_) (fD J J (fE J ?_) d9)))))))))))))) ?_
  ·exact fun _ _=>aC (pf g1 0 J (aG J aL J))
  ·exact fun _ gn=>dk J J (aC (lo aA (((E.ext (e8.t (o.t (p.t (L.t I))))).vN H).ext gn) (a5 sa Aa na ca) J J J (aG J aL J)))
  ·exact fun _ _=>aC (pf g6 2 J (aG J aL J))
  ·exact fun _ gb=>dk J J (aC (lo aA (((G.ext (o.t (p.t (L.t I)))).vN H).ext gb) (a5 se Ae ne ce) J J J (aG J aL J)))
  ·exact fun _ nI=>aC (lo aA (fd.ext nI) (a5 ao aj ap aq) J J J (aG J aL J))
  ·intro _ dr
   have f:=am.trans dr
   refine dk J J (dk J J (dk J J (aC ?_)))
   have ia:ln (x*v+(u*y))≤536870913:=a8 (dN (cK Lx Lv) bw) (by decide)
   refine cl (vs:= [O sa Aa na ca,O se Ae ne ce,O ao aj ap aq]) f (KK f.size (hx.ext f) (aK la J) (hv.ext f) (aK le J) (((dg.ext I).updT aw H).ext dr).zi (dg.le (aK bw J))) J (by kernel_rfl) fun _ _ fy fx ak=>?_
   obtain⟨_,_,_,_,rfl,gk⟩:=fy
   exact aG J fx ⟨_,_,_,_,rfl,gk⟩
  ·exact fun _ _=>aC (pf g1 2 J (aG J aL J))
  ·exact fun _ fg=>dk J J (aC (lo aA (((E.ext (e8.t (o.t (p.t (L.t I))))).vN H).ext fg) (a5 sb Ab nb cb) J J J (aG J aL J)))
  ·exact fun _ _=>aC (pf g6 2 J (aG J aL J))
  ·exact fun _ fc=>dk J J (aC (lo aA (((G.ext (o.t (p.t (L.t I)))).vN H).ext fc) (a5 se Ae ne ce) J J J (aG J aL J)))
  ·intro _ de
   have f:=am.trans de
   refine dk J J (dk J J (aC ?_))
   have gx:ln (y*v)≤536870912:=a8 (cK Ly Lv) (by decide)
   refine cl (vs:= [O sb Ab nb cb,O se Ae ne ce]) f (pS f.size (hy.ext f) (aK lb J) (hv.ext f) (aK le J)) J (by kernel_rfl) fun _ _ ew ej ak=>?_
   obtain⟨_,_,_,_,rfl,fm⟩:=ew
   exact aG J ej ⟨_,_,_,_,rfl,fm⟩
  ·intro _ eh
   have f:=am.trans eh
   refine aT J J fun _ _ fb _ fk=>?_
   obtain⟨en,ey,ez,fi,rfl,D⟩:=fb
   have D:=D.ext fk
   refine aT J J fun _ _ fh _ cv=>?_
   obtain⟨cp,ct,fe,ck,rfl,r⟩:=fh
   have r:=r.ext cv
   refine aC ?_
   have gr:ln (bP (x*v+(u*y)) (y*v))≤536870913:=fR ci
   have gy:ln (bS (x*v+(u*y)) (y*v))≤536870912:=fY bu
   refine cl (vs:= [O en ey ez fi,O cp ct fe ck]) f (pL f.size D.zi (D.le (aK ci J)) r.zi (r.le (aK bu J))) J (by kernel_rfl) fun _ _ ef du ak=>?_
   obtain⟨_,_,rfl,⟨_,_,_,_,_,_,_,_,rfl,fv,cz⟩,rfl⟩:=ef
   exact aG J du ⟨_,_,rfl,⟨_,_,_,_,_,_,_,_,rfl,fv,cz⟩,rfl⟩
  ·intro _ _
   refine aT J J fun _ _ cm _ bm=>?_
   obtain⟨_,_,rfl,⟨dx,cj,df,dt,dm,fj,fo,ei,rfl,ag,V⟩,rfl⟩:=cm
   have ag:=ag.ext bm
   have V:=V.ext bm
   refine aC ?_
   exact⟨a9 dx cj df dt dm fj fo ei,rfl,rfl,fun _=>by kernel_rfl,⟨_,_,_,_,_,_,_,_,rfl,ag,V⟩⟩
  ·intro _ _
   refine aT J J fun _ _ em _ av=>?_
   obtain⟨_,_,rfl,⟨_,_,_,_,_,_,_,_,rfl,bi,az⟩,rfl⟩:=em
   have bi:=bi.ext av
   have az:=az.ext av
   refine aC ?_
   exact⟨no (bI (y*v)),rfl,rfl,fun _=>by kernel_rfl,rfl⟩
  ·intro _ au
   have f:=am.trans au
   refine dk J J (dk J J (dk J J (dk J J (dk J J (aT J J fun _ _ fq _ dw=>?_)))))
   obtain⟨_,_,_,_,rfl,bj⟩:=fq
   have bj:=bj.ext dw
   refine dk J J (dk J J (dk J J (dk J J (aT J J fun _ _ fa _ eg=>?_))))
   obtain⟨_,_,_,_,rfl,ar⟩:=fa
   have ar:=ar.ext eg
   refine aT J J fun _ _ dz _ bg=>?_
   obtain⟨_,_,rfl,⟨_,_,_,_,_,_,_,_,rfl,bh,bo⟩,rfl⟩:=dz
   have bh:=bh.ext bg
   have bo:=bo.ext bg
   refine aT J J fun _ _ dh _ ba=>?_
   obtain⟨Z,aa,X,ae,ab,W,M,Y,rfl,U,ah⟩:=dh
   have U:=U.ext ba
   have ah:=ah.ext ba
   refine dk J J (aC ?_)
   have q:=(((ai.ext (p.t (L.t I))).vN H).ext au)
   refine so bC q [.bool Z,we aa X ae,.bool ab,we W M Y] f bd J J J J fun _ bp bf ak=>(mv 1 J (aX (dC (aO (aV (aU [a9 Z aa X ae ab W M Y,no (bI (y*v))] J ⟨⟨_,rfl,bH bC bp [.bool Z,we aa X ae,.bool ab,we W M Y] J (bq J) rfl⟩,rfl,AT⟩ ?_))))))
   exact⟨_,rfl,⟨_,_,rfl,⟨_,_,_,_,_,_,_,_,rfl,((U.updT q bf)).cast (J),((ah.updT q bf)).cast (J)⟩,rfl⟩,ak⟩
theorem T5 {nb:Nat}{nd:Nat}(hb:b≤w.heap.size)(hx:Zi w sa Aa na ca x)(la:na≤268435456)(hy:Zi w sb Ab nb cb y)(lb:nb≤268435456)(hu:Zi w sd Ad nd cd u)(ld:nd≤268435456)(hv:Zi w se Ae ne ce v)(le:ne≤268435456):aP aN 85 #[a9 sa Aa na ca sb Ab nb cb,a9 sd Ad nd cd se Ae ne ce] w (Gv w (T2 (FR b (bP (x*u) (y*v)) (bS (x*u) (y*v))) (Is (no (bI (y*v)))))):=by
 refine Calls.mono (R:=Gv w (T2 (FR w.heap.size (bP (x*u) (y*v)) (bS (x*u) (y*v))) (Is (no (bI (y*v)))))) ?_ (Gv.imp (T2.imp (FR.imp hb) Is.imp))
 have Lx:ln x≤268435456:=a8 hx.ln la
 have Ly:ln y≤268435456:=a8 hy.ln lb
 have Lu:ln u≤268435456:=a8 hu.ln ld
 have Lv:ln v≤268435456:=a8 hv.ln le
 refine bN Tryz.func85 J (n:=24) J (bq J) (args:= [a9 sa Aa na ca sb Ab nb cb,a9 sd Ad nd cd se Ae ne ce]) (bG [(0,a9 sa Aa na ca sb Ab nb cb),(1,a9 sd Ad nd cd se Ae ne ce)] ⟨rfl,rfl,AT⟩ (sr (bx [.bool sa,we Aa na ca,.bool sb,we Ab nb cb] (Ext.refl w) J J J fun g1 _ E _ _ fa=>(fG [.bool sd,we Ad nd cd,.bool se,we Ae ne ce] fa E.lt J J J fun g6 _ H _ _ e8 fj=>(bL [F0,S0,F0,S0] fj H.lt (fun _=>by kernel_rfl) J fun _ _ av ap _ o h=>(mv 1 J (a7 (aD (aD ?_)))))))))
 by_cases h0:y=0∨v=0
 ·have hz:y*v=0:=Int.mul_eq_zero.2 h0
  refine aF (lo bC (E.ext (e8.t o)) [.bool sa,we Aa na ca,.bool sb,we Ab nb cb] J J J (lo bC (H.ext o) [.bool sd,we Ad nd cd,.bool se,we Ae ne ce] J J J (cl (vs:= [a9 sa Aa na ca sb Ab nb cb,a9 sd Ad nd cd se Ae ne ce]) h (xQ (hx.ext h) (aK la J) (hy.ext h) (aK lb J) (hu.ext h) (aK ld J) (hv.ext h) (aK le J) h0) J (by kernel_rfl) fun _ _ fi fg D=>?_)))
  obtain rfl:=fi
  refine pu (v:= AI) J (a7 (aW J (sr (pu (v:= .agg #[F0,S0,F0,S0]) J ?_))))
  have ei:=(av.ext fg)
  refine so bC ei [F0,S0,F0,S0] D ap J J J J fun dl ck _ f=>(mv 1 J (a7 (aV (bR (aU [.agg #[F0,S0,F0,S0],no 4] J ⟨⟨_,rfl,bH bC ck [F0,S0,F0,S0] J (bq J) rfl⟩,rfl,AT⟩ ?_)))))
  exact⟨_,rfl,⟨_,_,rfl,⟨_,_,_,_,_,_,_,_,rfl,((Zr.zero (w:=dl) (base:=w.heap.size))).cast (by simp only [bP,bS,if_pos hz]),((Zr.zero (w:=dl) (base:=w.heap.size))).cast (by simp only [bP,bS,if_pos hz])⟩,(show (no 4:aM)=_ by simp only [bI,if_pos hz])⟩,f⟩
 ·have ey:y≠0:=fun e=>h0 (cH e)
  have fb:v≠0:=fun e=>h0 (cO e)
  refine aF (lo bC (E.ext (e8.t o)) [.bool sa,we Aa na ca,.bool sb,we Ab nb cb] J J J (lo bC (H.ext o) [.bool sd,we Ad nd cd,.bool se,we Ae ne ce] J J J (cl (vs:= [a9 sa Aa na ca sb Ab nb cb,a9 sd Ad nd cd se Ae ne ce]) h (C1 (hx.ext h) (aK la J) (hy.ext h) (aK lb J) (hu.ext h) (aK ld J) (hv.ext h) (aK le J) ey fb) J (by kernel_rfl) fun _ _ ft F D=>?_)))
  obtain rfl:=ft
  refine pu (v:= AS) J (a7 (aQ J (aY (aO (aD ?_)))))
  have bf:ln (x*u)≤536870912:=a8 (cK Lx Lu) (by decide)
  have bd:ln (y*v)≤536870912:=a8 (cK Ly Lv) (by decide)
  have ga:ln (bP (x*u) (y*v))≤536870912:=fR bf
  have fy:ln (bS (x*u) (y*v))≤536870912:=fY bd
  refine dG bY 13 [11,12] [Is (i5 g1 0),Is (O sa Aa na ca),Is (i5 g6 0),Is (O sd Ad nd cd),ZR w.heap.size (x*u),Is (i5 g1 2),Is (O sb Ab nb cb),Is (i5 g6 2),Is (O se Ae ne ce),ZR w.heap.size (y*v),T2 (FR w.heap.size (bP (x*u) (y*v)) (bS (x*u) (y*v))) (Is (no (bI (y*v)))),fun v' w'=>∃s0 A0 n0 c0 s1 A1 n1 c1,v'= a9 s0 A0 n0 c0 s1 A1 n1 c1∧Zr w' w.heap.size s0 A0 n0 c0 (bP (x*u) (y*v))∧Zr w' w.heap.size s1 A1 n1 c1 (bS (x*u) (y*v)),Is (no (bI (y*v)))] [[],[0],[],[2],[1,3],[],[5],[],[7],[6,8],[4,9],[10],[10]] [[],[0],[],[2],[0,1,2,3],[],[5],[],[7],[0,1,2,3,4,5,6,7,8],[0,1,2,3,4,5,6,7,8,9],[0,1,2,3,4,5,6,7,8,9,10],[0,1,2,3,4,5,6,7,8,9,10],[0,1,2,3,4,5,6,7,8,9,10,11,12],[0,1,2,3,4,5,6,7,8,9,10,11,12,13]] rfl
   (aH J J (aE J J ?_) (aH J J (aE J J ?_) (aH J J (aE J J ?_) (aH J J (aE J J ?_) (aH J J (aE J J ?_) (aH J J (aE J J ?_) (aH J J (aE J J ?_) (aH J J (aE J J ?_) (aH J J (aE J J ?_) (aH J J (aE J J ?_) (aH J J (aE J J ?_) (fD J J (fE J ?_) (fD J J (fE J ?_) d9))))))))))))) ?_
  ·exact fun _ _=>aC (pf g1 0 J (aG J aL J))
  ·exact fun _ fq=>dk J J (aC (lo aA (E.ext (e8.t (o.t (F.t fq)))) (a5 sa Aa na ca) J J J (aG J aL J)))
  ·exact fun _ _=>aC (pf g6 0 J (aG J aL J))
  ·exact fun _ fh=>dk J J (aC (lo aA (H.ext (o.t (F.t fh))) (a5 sd Ad nd cd) J J J (aG J aL J)))
  ·intro _ fp
   have f:=D.trans fp
   refine dk J J (dk J J (aC ?_))
   have fz:ln (x*u)≤536870912:=a8 (cK Lx Lu) (by decide)
   refine cl (vs:= [O sa Aa na ca,O sd Ad nd cd]) f (pS f.size (hx.ext f) (aK la J) (hu.ext f) (aK ld J)) J (by kernel_rfl) fun _ _ fo fe ae=>?_
   obtain⟨_,_,_,_,rfl,ez⟩:=fo
   exact aG J fe ⟨_,_,_,_,rfl,ez⟩
  ·exact fun _ _=>aC (pf g1 2 J (aG J aL J))
  ·exact fun _ fc=>dk J J (aC (lo aA (E.ext (e8.t (o.t (F.t fc)))) (a5 sb Ab nb cb) J J J (aG J aL J)))
  ·exact fun _ _=>aC (pf g6 2 J (aG J aL J))
  ·exact fun _ fd=>dk J J (aC (lo aA (H.ext (o.t (F.t fd))) (a5 se Ae ne ce) J J J (aG J aL J)))
  ·intro _ fk
   have f:=D.trans fk
   refine dk J J (dk J J (aC ?_))
   have fw:ln (y*v)≤536870912:=a8 (cK Ly Lv) (by decide)
   refine cl (vs:= [O sb Ab nb cb,O se Ae ne ce]) f (pS f.size (hy.ext f) (aK lb J) (hv.ext f) (aK le J)) J (by kernel_rfl) fun _ _ dt cp ae=>?_
   obtain⟨_,_,_,_,rfl,dm⟩:=dt
   exact aG J cp ⟨_,_,_,_,rfl,dm⟩
  ·intro _ cm
   have f:=D.trans cm
   refine aT J J fun _ _ eh _ dg=>?_
   obtain⟨bw,cz,bj,dw,rfl,q⟩:=eh
   have q:=q.ext dg
   refine aT J J fun _ _ bu _ ej=>?_
   obtain⟨df,dr,ef,el,rfl,r⟩:=bu
   have r:=r.ext ej
   refine aC ?_
   have fv:ln (bP (x*u) (y*v))≤536870912:=fR bf
   have fx:ln (bS (x*u) (y*v))≤536870912:=fY bd
   refine cl (vs:= [O bw cz bj dw,O df dr ef el]) f (pL f.size q.zi (q.le (aK bf J)) r.zi (r.le (aK bd J))) J (by kernel_rfl) fun _ _ du dy ae=>?_
   obtain⟨_,_,rfl,⟨_,_,_,_,_,_,_,_,rfl,eg,cj⟩,rfl⟩:=du
   exact aG J dy ⟨_,_,rfl,⟨_,_,_,_,_,_,_,_,rfl,eg,cj⟩,rfl⟩
  ·intro _ _
   refine aT J J fun _ _ bg _ ai=>?_
   obtain⟨_,_,rfl,⟨dh,bp,bm,bh,dz,bo,cu,ci,rfl,L,I⟩,rfl⟩:=bg
   have L:=L.ext ai
   have I:=I.ext ai
   refine aC ?_
   exact⟨a9 dh bp bm bh dz bo cu ci,rfl,rfl,fun _=>by kernel_rfl,⟨_,_,_,_,_,_,_,_,rfl,L,I⟩⟩
  ·intro _ _
   refine aT J J fun _ _ bi _ aw=>?_
   obtain⟨_,_,rfl,⟨_,_,_,_,_,_,_,_,rfl,ag,au⟩,rfl⟩:=bi
   have ag:=ag.ext aw
   have au:=au.ext aw
   refine aC ?_
   exact⟨no (bI (y*v)),rfl,rfl,fun _=>by kernel_rfl,rfl⟩
  ·intro _ am
   have f:=D.trans am
   refine dk J J (dk J J (dk J J (dk J J (aT J J fun _ _ dx _ ch=>?_))))
   obtain⟨_,_,_,_,rfl,ak⟩:=dx
   have ak:=ak.ext ch
   refine dk J J (dk J J (dk J J (dk J J (aT J J fun _ _ de _ ct=>?_))))
   obtain⟨_,_,_,_,rfl,ah⟩:=de
   have ah:=ah.ext ct
   refine aT J J fun _ _ da _ az=>?_
   obtain⟨_,_,rfl,⟨_,_,_,_,_,_,_,_,rfl,ar,aq⟩,rfl⟩:=da
   have ar:=ar.ext az
   have aq:=aq.ext az
   refine aT J J fun _ _ cv _ ao=>?_
   obtain⟨W,M,X,Z,aa,Y,V,ab,rfl,U,G⟩:=cv
   have U:=U.ext ao
   have G:=G.ext ao
   refine dk J J (aC ?_)
   have p:=(av.ext (F.t am))
   refine so bC p [.bool W,we M X Z,.bool aa,we Y V ab] f ap J J J J fun _ ba aj ae=>(mv 1 J (aX (dC (aO (aV (aU [a9 W M X Z aa Y V ab,no (bI (y*v))] J ⟨⟨_,rfl,bH bC ba [.bool W,we M X Z,.bool aa,we Y V ab] J (bq J) rfl⟩,rfl,AT⟩ ?_))))))
   exact⟨_,rfl,⟨_,_,rfl,⟨_,_,_,_,_,_,_,_,rfl,(U.updT p aj),(G.updT p aj)⟩,rfl⟩,ae⟩
@[irreducible] def nI:Nat:=1074
@[irreducible] def fB:Nat:=2098
@[irreducible] def fL:Nat:=1024
@[irreducible] def lM:Nat:=970
@[irreducible] def pU:Nat:=2045
@[irreducible] def nJ:Nat:=2046
def rv (r:Nat):Nat:=if r<4503599627370496 then r else (4503599627370496+r%4503599627370496)*2^(r/4503599627370496-1)
theorem a0g {s:Nat}(h:n≠0):cV (n*2^s)=cV n+s:=by
 refine DX ?_ (cO ?_)
 ·rw [dU];exact (Nat.mul_lt_mul_right (Nat.two_pow_pos s)).2 (pQ n)
 ·have hb:cV n≠0:=fun e=>h (nO.1 e)
  rw [show cV n+s-1=(cV n-1)+s by omega,dU]
  exact eI _ (zG h)
theorem QS (x y:Int):(x<y∧bE x y= -1)∨(x=y∧bE x y=0)∨(y<x∧bE x y=1):=by unfold bE;split <;> (try split) <;> omega
theorem xI (x y z t:Int): -1≤bE x y*bE z t∧bE x y*bE z t≤1:=by
 rcases QS x y with⟨_,e⟩ | ⟨_,e⟩ | ⟨_,e⟩ <;> rw [e] <;> have:=GC z t <;> omega
theorem NK (hx : Zi w s A n cap x)(hl : n ≤ 68719476736)(hy : Zi w t B m cap' y)(hl' : m ≤ 68719476736)(h0 : y = 0):aP aN 149 #[.agg #[.bool s, we A n cap], .agg #[.bool t, we B m cap']] w (wB w 0 0 4) := by
  have H0 := Lib.hid h0
  clear h0
  go_enter Tryz.func149, Tryz.ntmps149
  go_upto_region 1 with (fail)
  obtain ⟨g, g2, g3, g4, wa, hg4, hg3, hg2, hg, hwa, hb1, hb2, hb3, hb4, hea, l12, l23, l34, l4, n12, n21, n13, n31, n23, n32, n14, n41, n24, n42, n34, n43⟩ := vV w 24 24 24 24 (.bool s) (we A n cap) (.bool t) (we B m cap') (AS) (we none 0 0) (AS) (we none 0 0)
  rw [hg4, hg3, hg2, hg, hwa]
  have hgw : w.heap.size ≤ g := Nat.le_of_eq hg
  clear hwa hg hg2 hg3 hg4
  obtain ⟨f1, f2, f3, f4⟩ := hb1.two
  obtain ⟨h1, h2, h3, h4⟩ := hb2.two
  go_wp2_with fail
  refine (NG (hx.ext hea) hl (hy.ext hea) hl' H0.out).mono ?_
  rintro e w1 ⟨sq, Aq, nq, cq, sr, Ar, nr, cr, rfl, zq, zr, hx1⟩
  clear f1 f2 f3 f4 h1 h2 h3 h4
  go_upto_region 2 with (fail)
  obtain ⟨g7, g8, v1, hg8, hg7, hv1, hb7, hb8, he, l78, l8, n78, n87⟩ := MC w1 24 24 [.bool sq, we Aq nq cq] [.bool sr, we Ar nr cr]
  rw [hg8, hg7, hv1]
  have hs7 : w1.heap.size ≤ g7 := Nat.le_of_eq hg7
  have zq := zq.ext he
  have zr := zr.ext he
  have x1 := hx1.trans he
  have hb3 := hb3.ext x1
  have hb4 := hb4.ext x1
  have e1 := hea.trans x1
  have sz1 := hx1.size
  clear hg8 hg7 hv1 he hb1 hx1
  have hn37 : g3 ≠ g7 := by omega
  have hn38 : g3 ≠ g8 := by omega
  have hn47 : g4 ≠ g7 := by omega
  have hn48 : g4 ≠ g8 := by omega
  have hn73 := hn37.symm
  have hn83 := hn38.symm
  have hn74 := hn47.symm
  have hn84 := hn48.symm
  go_upto_region 5 with (fail)
  obtain ⟨f1, f2, f3, f4⟩ := hb7.two
  obtain ⟨h1, h2, h3, h4⟩ := hb8.two
  obtain ⟨i1, i2, i3, i4⟩ := hb3.two
  obtain ⟨k1, k2, k3, k4⟩ := hb4.two
  go_region_held3 (fun w' => w'.cell? ⟨g7, 0, none⟩ = some (.bool sq) ∧ w'.cell? ⟨g7, 1, none⟩ = some (we Aq nq cq) ∧ w'.cell? ⟨g8, 0, none⟩ = some (.bool sr) ∧ w'.cell? ⟨g8, 1, none⟩ = some (we Ar nr cr)) (go_keep) (fail)
  all_goals
    go_wp2_with fail
    first
    | (refine fO (nD rfl rfl rfl rfl (((hb3.drew).two_set _ _).two_far n34 _ _) (((hb4.drew).two_far n43 _ _).two_set _ _)) rfl ?_
       exact ⟨_, _, _, _, _, _, _, _, rfl, (((zq.ext aL.drew).upd (by omega) (Upd.two _ _)).upd (by omega) (Upd.two _ _)).mono (by omega), (((zr.ext aL.drew).upd (by omega) (Upd.two _ _)).upd (by omega) (Upd.two _ _)).mono (by omega), (Upd.two _ _).ext ((Upd.two _ _).ext e1.drew (by omega)) (by omega)⟩)
    | (refine fO (nD rfl rfl rfl rfl (((hb3.drew).two_far n34 _ _).two_set _ _) (((hb4.drew).two_set _ _).two_far n43 _ _)) rfl ?_
       exact ⟨_, _, _, _, _, _, _, _, rfl, (((zq.ext aL.drew).upd (by omega) (Upd.two _ _)).upd (by omega) (Upd.two _ _)).mono (by omega), (((zr.ext aL.drew).upd (by omega) (Upd.two _ _)).upd (by omega) (Upd.two _ _)).mono (by omega), (Upd.two _ _).ext ((Upd.two _ _).ext e1.drew (by omega)) (by omega)⟩)
theorem XQ {q:Int}(h:Flo q r x y)(hy:y≠0):r.natAbs<y.natAbs:=by
 rcases Int.lt_or_gt_of_ne hy with h1 | h1
 ·have:=h.neg h1;omega
 ·have:=h.pos h1;omega
theorem V8 {q:Int}(h:Flo q r x y)(hy:y≠0)(hx:ln x≤N)(hN:1≤N):ln q≤N+1:=by
 have h1:=XQ h hy
 have h2:(q*y).natAbs≤x.natAbs+y.natAbs:=by have:=h.eq;omega
 rw [Int.natAbs_mul] at h2
 have e:q.natAbs≤x.natAbs+1:=by
  refine Nat.le_of_mul_le_mul_right (c:=y.natAbs) ?_ (by omega)
  have:x.natAbs*1≤x.natAbs*y.natAbs:=fJ _ (by omega)
  rw [dK];omega
 refine a8 (dZ (y:=(x.natAbs:Int)+1) (by omega)) ?_
 exact a8 (dN (by rw [tG];exact hx) (show ln 1≤1 by decide+kernel)) (by omega)
theorem KG (hb:b≤w.heap.size)(hx:Zi w s A n cap x)(hl:n≤68719476736)(hy:Zi w t B m cap' y)(hl':m≤68719476736)(h0:y≠0):aP aN 149 #[O s A n cap,O t B m cap'] w (fun e w'=>∃q r,Flo q r x y∧Gv w (T3 (ZR b q) (ZR b r) (Is (no 0))) e w'):=by
 refine (NM hx hl hy hl' h0).mono fun e w' h=>?_
 obtain⟨q,r,h1,h2⟩:=h
 exact⟨q,r,h1.out,CT hb _ _ h2⟩
theorem WC (hb:b≤w.heap.size)(hx:Zi w s A n cap x)(hl:n≤68719476736)(hy:Zi w t B m cap' y)(hl':m≤68719476736)(h0:y=0):aP aN 149 #[O s A n cap,O t B m cap'] w (Gv w (T3 (ZR b 0) (ZR b 0) (Is (no 4)))):=(NK hx hl hy hl' h0).mono (CT hb)
theorem a0i (h:a≤b):cV a≤cV b:=rW (jY h (pQ b))
theorem UU {p q p' q':Int}(h:Low p q x y)(h':Low p' q' x y):p=p'∧q=q':=by
 refine yA h.co h'.co h.pos h'.pos ?_
 have E:y≠0:=fun e=>by have:=h.nq;have:=h.pos;subst e;simp at*;omega
 have o:=h.eq
 have r:=h'.eq
 refine Int.eq_of_mul_eq_mul_right E ?_
 have D:p*q'*y=(p*y)*q':=by grind
 have f:p'*q*y=(p'*y)*q:=by grind
 rw [D,f,o,r];grind
def tQ:Nat→Int→Int→List Int
 | 0,_,_=> []
 | f+1,n,d=>if d=0 then [] else (n/d)::tQ f d (n%d)
def dD (n d:Int):List Int:=tQ d.toNat n d
theorem LV:∀{f g:Nat}{n d:Int},0≤d→d.toNat≤f→d.toNat≤g→tQ f n d=tQ g n d
 | 0,0,_,_,_,_,_=>rfl
 | 0,g+1,n,d,h,h1,_=>by
  have:d=0:=by omega
  subst this;rfl
 | f+1,0,n,d,h,_,h2=>by
  have:d=0:=by omega
  subst this;rfl
 | f+1,g+1,n,d,h,h1,h2=>by
  unfold tQ
  split
  ·rfl
  ·rename_i h0
   have e:=j0 n h0
   have hb:=k9 n (show 0<d by omega)
   rw [LV (f:=f) (g:=g) e (by omega) (by omega)]
theorem nL (n:Int):dD n 0= []:=rfl
theorem kT {n:Int}(h:0<d):dD n d=(n/d)::dD d (n%d):=by
 have o:=j0 n (show d≠0 by omega)
 have hb:=k9 n h
 obtain⟨k,e⟩:∃k,d.toNat=k+1:=⟨d.toNat-1,by omega⟩
 unfold dD
 rw [e,tQ,if_neg (by omega),LV (f:=k) (g:=(n%d).toNat) o (by omega) (aZ _)]
theorem vS {P:Int → Int → Prop}(h0 : ∀ n, P n 0)(hs : ∀ n d, 0 < d → P d (n % d) → P n d): ∀ (n d : Int), 0 ≤ d → P n d := by
  have key : ∀ (k : Nat) (n d : Int), 0 ≤ d → d.toNat ≤ k → P n d := by
    intro k
    induction k with
    | zero => intro n d h1 h2; have : d = 0 := by omega
              subst this; exact h0 n
    | succ k ih =>
      intro n d h1 h2
      by_cases e : d = 0
      · subst e; exact h0 n
      · have f := j0 n e
        have hb := k9 n (show 0 < d by omega)
        exact hs n d (by omega) (ih d (n % d) f (by omega))
  exact fun n d h => key d.toNat n d h (aZ _)
theorem ZS:∀(n d:Int),0≤d→d<n→∀z,z∈dD n d→1≤z:=by
 refine vS (P:=fun n d=>d<n→∀z,z∈dD n d→1≤z) (fun n _ z e=>by rw [nL] at e;cases e) fun n d f ih _ z e=>?_
 rw [kT f] at e
 rcases List.mem_cons.1 e with rfl | e
 ·exact (Int.le_ediv_iff_mul_le f).2 (by omega)
 ·exact ih (k9 n f) z e
theorem ZP {n:Int}(hd:0<d):∀z,z∈(dD n d).drop 1→1≤z:=by
 rw [kT hd]
 exact ZS d (n%d) (j0 n (by omega)) (k9 n hd)
theorem ZU:∀(n d:Int),0≤d→0<d→d<n→1<(dD n d).getD ((dD n d).length-1) 0:=by
 refine vS (P:=fun n d=>0<d→d<n→1<(dD n d).getD ((dD n d).length-1) 0) (fun n h=>by omega) fun n d f ih _ _=>?_
 rw [kT f]
 have q:=j0 n (show d≠0 by omega)
 have hb:=k9 n f
 by_cases h0:n%d=0
 ·rw [h0,nL]
  show 1<n/d
  have h1:=Int.mul_ediv_add_emod n d
  rw [h0] at h1
  refine Int.lt_of_not_ge fun p=>?_
  have h2:d*(n/d)≤d*1:=Int.mul_le_mul_of_nonneg_left p (by omega)
  omega
 ·have:=ih (by omega) hb
  have o:0<(dD d (n%d)).length:=by rw [kT (by omega)];simp
  rw [eN,mC]
  obtain⟨k,e⟩:∃k,(dD d (n%d)).length=k+1:=⟨(dD d (n%d)).length-1,by omega⟩
  rw [e,mC] at this
  rw [e]
  exact this
theorem DQ:∀(n d:Int),0≤d→(0<d∨0<n)→∃g:Int,0<g∧n=g*(nd (dD n d)).1∧d=g*(nd (dD n d)).2:=by
 refine vS (P:=fun n d=>(0<d∨0<n)→∃g:Int,0<g∧n=g*(nd (dD n d)).1∧d=g*(nd (dD n d)).2) (fun n h=>?_) fun n d e ih _=>?_
 ·rw [nL]
  exact⟨n,by omega,by show n=n*1;omega,by show 0=n*0;omega⟩
 ·obtain⟨g,hg,h1,h2⟩:=ih (cO e)
  have f:=Int.mul_ediv_add_emod n d
  refine⟨g,hg,?_,?_⟩
  ·rw [kT e,xV]
   generalize n/d=q at*
   generalize n%d=r at*
   generalize (nd (dD d r)).1=u at*
   generalize (nd (dD d r)).2=v at*
   rw [←f,h2,h1];grind
  ·rw [kT e,v8];exact h1
theorem ZW:∀(n d:Int),0≤d→(0<d∨0<n)→∀k,∃n' d',(dD n d).drop k=dD n' d'∧0≤d'∧(0<d'∨0<n')∧n'.natAbs≤max n.natAbs d.natAbs∧d'.natAbs≤d.natAbs:=by
 refine vS (P:=fun n d=>(0<d∨0<n)→∀k,∃n' d',(dD n d).drop k=dD n' d'∧0≤d'∧(0<d'∨0<n')∧n'.natAbs≤max n.natAbs d.natAbs∧d'.natAbs≤d.natAbs) (fun n h k=>?_) fun n d e ih _ k=>?_
 ·exact⟨n,0,by rw [nL,List.drop_nil],by omega,h,by omega,by omega⟩
 ·cases k with
  | zero=>exact⟨n,d,rfl,by omega,cH e,by omega,by omega⟩
  | succ k=>
   obtain⟨n',d',h1,h2,f,_,_⟩:=ih (cO e) k
   have o:=j0 n (show d≠0 by omega)
   have hb:=k9 n e
   exact⟨n',d',by rw [kT e,List.drop_succ_cons];exact h1,h2,f,by omega,by omega⟩
theorem ZT {n:Int}(hd:0<d)(hn:ln n≤N)(hl:ln d≤N)(k:Nat):ln (nd ((dD n d).drop k)).1≤N∧ln (nd ((dD n d).drop k)).2≤N:=by
 obtain⟨n',d',h1,h2,o,_,_⟩:=ZW n d (by omega) (cH hd) k
 obtain⟨g,hg,q,p⟩:=DQ n' d' h2 o
 rw [h1]
 have D:(nd (dD n' d')).1.natAbs≤n'.natAbs:=by
  have e:n'.natAbs=g.natAbs*(nd (dD n' d')).1.natAbs:=by rw [←Int.natAbs_mul,←q]
  rw [e];exact Nat.le_mul_of_pos_left _ (by omega)
 have r:(nd (dD n' d')).2.natAbs≤d'.natAbs:=by
  have e:d'.natAbs=g.natAbs*(nd (dD n' d')).2.natAbs:=by rw [←Int.natAbs_mul,←p]
  rw [e];exact Nat.le_mul_of_pos_left _ (by omega)
 have f:∀z:Int,z.natAbs≤max n.natAbs d.natAbs→ln z≤N:=fun z _=>by
  rcases Nat.le_total n.natAbs d.natAbs with h | h
  ·exact a8 (dZ (by omega)) hl
  ·exact a8 (dZ (y:=n) (by omega)) hn
 exact⟨f _ (by omega),f _ (by omega)⟩
theorem JL {n:Int}(hd:0<d)(hn:ln n≤N)(hN:1≤N):ln (n/d)≤N+1:=by
 have h1:=Int.mul_ediv_add_emod n d
 have h2:=j0 n (show d≠0 by omega)
 have e:=k9 n hd
 exact V8 (y:=d) (r:=n%d) ⟨by rw [Int.mul_comm];exact h1,fun _=>⟨h2,e⟩,fun h=>by omega⟩ (by omega) hn hN
theorem DR:∀(n d:Int),0≤d→(dD n d).length≤2*cV d.natAbs:=by
 have key:∀(k:Nat) (n d:Int),0≤d→d.natAbs≤k→(dD n d).length≤2*cV d.natAbs:=by
  intro k
  induction k using Nat.strongRecOn with
  | _ k ih=>
   intro n d h0 _
   by_cases D:d=0
   ·subst D;exact bJ _
   ·have o:0<d:=by omega
    have I:=j0 n D
    have hb:=k9 n o
    have F:1≤cV d.natAbs:=by
     refine Nat.pos_of_ne_zero fun e=>?_
     have:=nO.1 e;omega
    rw [kT o,eN]
    by_cases hr:n%d=0
    ·rw [hr,nL];simp;omega
    ·have f:0<n%d:=by omega
     have p:=j0 d hr
     have G:=k9 d f
     rw [kT f,eN]
     generalize n%d=r at*
     have hs:2*(d%r).natAbs<d.natAbs:=by
      have h1:=Int.mul_ediv_add_emod d r
      have h2:1≤d/r:=(Int.le_ediv_iff_mul_le f).2 (by omega)
      have H:r*1≤r*(d/r):=Int.mul_le_mul_of_nonneg_left h2 (by omega)
      omega
     have M:=ih (k-1) (by omega) r (d%r) p (by omega)
     have L:cV (d%r).natAbs+1≤cV d.natAbs:=by
      by_cases E:(d%r).natAbs=0
      ·rw [E,nO.2 rfl];omega
      ·have q:=a0g (n:=(d%r).natAbs) (s:=1) E
       rw [Nat.pow_one] at q
       rw [←q]
       exact a0i (by omega)
     omega
 exact fun n d h=>key d.natAbs n d h (aZ _)
end Go.Proofs.YtkepckmdjncehaaGreatDoor
