/- Parts Ld3, Lde, Ld4, Ldf, Ld5, Ldg, Ld6, Ldh, Ld7, Hfs, Ldi, Ld8, Ld9, Hfe, Hg, On1, Sna, Snb, Snc, j3, Sn1, joined. -/
import Derived.Test.YtnpbbknemflpnaaGreatW4

open Go renaming Addr → a6, Calls → aR, World → a0
open Classical renaming choose → jB, choose_spec → lX
open List renaming replicate → dL
open Nat renaming add_mul → dS, add_zero → eA, le_of_not_lt → kW, le_refl → aI, le_trans → a7, lt_of_lt_of_le → cJ, lt_or_ge → eB, mul_le_mul → fV, mul_le_mul_right → dX, succ_mul → gO, zero_le → bX
open Or renaming inl → bE, inr → bK
open Go.Proofs.Tryz renaming prog → aJ
namespace Go.Proofs.YtnpbbknemflpnaaGreat
set_option maxHeartbeats 8000000
set_option maxRecDepth 20000
variable {A U X Y Z:Mx}{Aa Ab Ak Ak1 Ak2 Ak3 Ak4 Ap At RA:Option a6}{B K K' N b b_k b_k1 b_k2 b_k3 b_k4 c capa cc d gl gr gs i j k lb m n na r rcap s:Nat}{D a u x y:Int}{P:Program}{af:Array Edge}{gd:Option (Nat×Bool)}{l:Fr}{ops:Array Oper}{pos:String}{ps:List Nat}{rest:List Oper}{sa sb sk1 sk2 sk3 sk4 t:Bool}{ts:Array TypeId}{ty:TypeId}{w:a0}{xs zs zsp zst:List Int}
section
open Go.RowKit
theorem Q9:∀w,(isAgg 107).run aJ w= .ok false w:=fun _=>by kernel_rfl
theorem Q8:∀w,(isAgg 108).run aJ w= .ok false w:=fun _=>by kernel_rfl
theorem QB:∀w,(isAgg 109).run aJ w= .ok false w:=fun _=>by kernel_rfl
theorem QA:∀w,(isAgg 110).run aJ w= .ok false w:=fun _=>by kernel_rfl
theorem qP {ra:Nat→Option a6}{rc:Nat→Nat}(hL:Ldr lb n cc gl gs gr RA rcap ra rc w Z)(hlb:lb≤w.heap.size)(hcc:cc≤64)(hi2:i<n:=by omega)(hj2:j<n:=by omega):aR aJ 68 #[a9 gl 0,AI i,AI j] w (fun e w'=>e= .returned (.tuple #[])∧Ldr lb n cc gl gs gr RA rcap ra rc w' (lB i j Z)∧UpS (LS n gl gs gr RA ra) w w'):=by
 refine bQ Tryz.func68 G (n:=23) G (bq G) (args:= [a9 gl 0,AI i,AI j]) ?_
 have ai:∀k,LS n gl gs gr RA ra k→k<w.heap.size:=fun k hk=>(hL.lt hk).2
 obtain⟨_,_,H⟩:=(hL).op
 have bg:=H.ho.rv.le
 refine bH [(0,a9 gl 0),(1,AI i),(2,AI j)] ⟨rfl,rfl,rfl,Ht⟩ (sr (mv 1 G (pf gl 0 G (pf gl 1 G (aK G G (aQ uA H.bl G) (pu (v:= AI 1) G (mv 1 G (aE (bB ?_)))))))))
 refine d6 (T:=a0×Nat) (fun⟨wr,h⟩=> [(0,a9 gl 0),(1,AI i),(2,AI j),(8,a9 gl 0),(9,a9 gl 0),(10,a9 gl 1),(11,By (some ⟨gs,0,none⟩) 1 1),(12,AI 1),(13,AI h)]) (fun⟨wr,h⟩=>wr) (fun⟨wr,h⟩=>(UpS (LS n gl gs gr RA ra) w wr)∧(h≤1)∧(Ldr lb n cc gl gs gr RA rcap ra rc wr (fun a b=>if h=0 then Z a b else (lB i j Z) a b))) (fun⟨wr,h⟩=>1-h)
  (⟨w,0⟩:a0×Nat) ⟨(UpS.refl (LS n gl gs gr RA ra) w),(by omega),(H.ldr.cong fun a b _ _=>if_pos G)⟩ G ⟨rfl,rfl,rfl,rfl,rfl,rfl,rfl,rfl,rfl,Ht⟩ ?_
 rintro⟨wr,h⟩ ⟨J,_,I⟩
 refine d4 [(0,a9 gl 0),(1,AI i),(2,AI j),(8,a9 gl 0),(9,a9 gl 0),(10,a9 gl 1),(11,By (some ⟨gs,0,none⟩) 1 1),(12,AI 1),(13,AI h)] wr G ⟨rfl,rfl,rfl,rfl,rfl,rfl,rfl,rfl,rfl,Ht⟩ ?_
 obtain⟨_,_,ak⟩:=(I).op
 refine aH ?_
 by_cases bh:h<1
 ·have ba:h=0:=by omega
  have av:∀a b,(fun a b=>if h=0 then Z a b else (lB i j Z) a b) a b=Z a b:=fun a b=>by simp only [ba,if_true]
  have hQ:=ak.ldr.cong (Y:=Z) fun a b _ _=>(av a b).symm
  obtain⟨_,_,o⟩:=(hQ).op
  refine aL (aN G G G true (dB (a:=h) (b:=1) G G) (aE (aH (bJ G (bA (aM (aH (bB (sr (aX G G G Tryz.underlying97 iK.size 0 (by omega) ⟨gs,0,none⟩ G (lo iK o.bs [.func (.func 83) #[] #[a9 gr 0],.func (.func 84) #[] #[a9 gr 0],.func (.func 85) #[] #[a9 gr 0],.func (.func 87) #[] #[a9 gr 0]] G G G (dM G (z:= .agg #[.nilFunc,.nilFunc,.nilFunc,.nilFunc]) (vs:= [.nilFunc,.nilFunc,.nilFunc,.nilFunc]) (fun _=>by kernel_rfl) G fun g4 v5 nb=>?_)) (hj:=(by decide))))))))))))
  have U:=nb.bk
  have aa:w.heap.size≤g4:=by rw [←nb.at_];exact J.size
  have q9:gs<g4:=by rw [←nb.at_];exact o.bs.lt
  have e6:=nb.ext
  clear nb
  have au:UpS (LS n gl gs gr RA ra) w v5:=J.ext e6
  refine fC G G G iK G U (bq G) G [.func (.func 83) #[] #[a9 gr 0],.func (.func 84) #[] #[a9 gr 0],.func (.func 85) #[] #[a9 gr 0],.func (.func 87) #[] #[a9 gr 0]] G fun aq ac ab _=>?_
  have ag:UpS (LS n gl gs gr RA ra) w aq:=au.upd ab aa
  refine aE (aL (pf g4 0 G (aK G G (aQ Q9 ac G) (mv 2 G (oE [AI i,AI j] G G G (enters_of Tryz.func83 (by kernel_rfl) G) (by decide) (NW ((o.ext e6).updT U ab (fun q=>absurd (ai _ q) (by have:=aa;omega))) (a7 hlb ag.size) hcc hi2 hj2) ?_)))))
  rintro _ ah ⟨rfl,ao,aj⟩
  refine bL ?_
  have bc:=((o.ext e6).updT U ab (fun q=>absurd (ai _ q) (by have:=aa;omega))).ldr.no64
  have ar:UpS (LS n gl gs gr RA ra) w ah:=ag.trans aj
  obtain⟨_,_,ae⟩:=(ao).op
  refine aS (cC (aM (aL (bC G G G ((h+1:Nat):Int) (bW (a:=h) (b:=1) G G) (mv 1 G (aS (cB (⟨ah,h+1⟩:a0×Nat) ⟨ar,(by omega),(ae.ldr.cong fun a b _ _=>if_neg (by omega))⟩ (show 1-(h+1)<1-h by omega) G ⟨rfl,rfl,rfl,rfl,rfl,rfl,rfl,rfl,rfl,Ht⟩)))))))
 ·refine aL (aN G G G false (dK (a:=h) (b:=1) G G) (aE (aH (aY G (cM (cK (cT (cL (iW [] G Ht ?_)))))))))
  exact⟨rfl,ak.ldr.cong (fun a b _ _=>by simp only [show h≠0 by omega,if_false]),J⟩
theorem E4 {ra:Nat→Option a6}{rc:Nat→Nat}(hL:Ldr lb n cc gl gs gr RA rcap ra rc w Z)(hlb:lb≤w.heap.size)(hcc:cc≤64)(hi2:i<n):aR aJ 92 #[a9 gl 0,AI i] w (fun e w'=>e= .returned (.tuple #[])∧Ldr lb n cc gl gs gr RA rcap ra rc w' (gD i Z)∧UpS (LS n gl gs gr RA ra) w w'):=by
 refine bQ Tryz.func92 G (n:=20) G (bq G) (args:= [a9 gl 0,AI i]) ?_
 have ai:∀k,LS n gl gs gr RA ra k→k<w.heap.size:=fun k hk=>(hL.lt hk).2
 obtain⟨_,_,H⟩:=(hL).op
 have bg:=H.ho.rv.le
 refine bH [(0,a9 gl 0),(1,AI i)] ⟨rfl,rfl,Ht⟩ (sr (mv 1 G (pf gl 0 G (pf gl 1 G (aK G G (aQ uA H.bl G) (pu (v:= AI 1) G (mv 1 G (aE (bB ?_)))))))))
 refine d6 (T:=a0×Nat) (fun⟨wr,h⟩=> [(0,a9 gl 0),(1,AI i),(6,a9 gl 0),(7,a9 gl 0),(8,a9 gl 1),(9,By (some ⟨gs,0,none⟩) 1 1),(10,AI 1),(11,AI h)]) (fun⟨wr,h⟩=>wr) (fun⟨wr,h⟩=>(UpS (LS n gl gs gr RA ra) w wr)∧(h≤1)∧(Ldr lb n cc gl gs gr RA rcap ra rc wr (fun a b=>if h=0 then Z a b else (gD i Z) a b))) (fun⟨wr,h⟩=>1-h)
  (⟨w,0⟩:a0×Nat) ⟨(UpS.refl (LS n gl gs gr RA ra) w),(by omega),(H.ldr.cong fun a b _ _=>if_pos G)⟩ G ⟨rfl,rfl,rfl,rfl,rfl,rfl,rfl,rfl,Ht⟩ ?_
 rintro⟨wr,h⟩ ⟨J,_,I⟩
 refine d4 [(0,a9 gl 0),(1,AI i),(6,a9 gl 0),(7,a9 gl 0),(8,a9 gl 1),(9,By (some ⟨gs,0,none⟩) 1 1),(10,AI 1),(11,AI h)] wr G ⟨rfl,rfl,rfl,rfl,rfl,rfl,rfl,rfl,Ht⟩ ?_
 obtain⟨_,_,ak⟩:=(I).op
 refine aH ?_
 by_cases bh:h<1
 ·have ba:h=0:=by omega
  have av:∀a b,(fun a b=>if h=0 then Z a b else (gD i Z) a b) a b=Z a b:=fun a b=>by simp only [ba,if_true]
  have hQ:=ak.ldr.cong (Y:=Z) fun a b _ _=>(av a b).symm
  obtain⟨_,_,o⟩:=(hQ).op
  refine aL (aN G G G true (dB (a:=h) (b:=1) G G) (aE (aH (bJ G (bA (aM (aH (bB (sr (aX G G G Tryz.underlying97 iK.size 0 (by omega) ⟨gs,0,none⟩ G (lo iK o.bs [.func (.func 83) #[] #[a9 gr 0],.func (.func 84) #[] #[a9 gr 0],.func (.func 85) #[] #[a9 gr 0],.func (.func 87) #[] #[a9 gr 0]] G G G (dM G (z:= .agg #[.nilFunc,.nilFunc,.nilFunc,.nilFunc]) (vs:= [.nilFunc,.nilFunc,.nilFunc,.nilFunc]) (fun _=>by kernel_rfl) G fun g4 v5 nb=>?_)) (hj:=(by decide))))))))))))
  have U:=nb.bk
  have aa:w.heap.size≤g4:=by rw [←nb.at_];exact J.size
  have q9:gs<g4:=by rw [←nb.at_];exact o.bs.lt
  have e6:=nb.ext
  clear nb
  have au:UpS (LS n gl gs gr RA ra) w v5:=J.ext e6
  refine fC G G G iK G U (bq G) G [.func (.func 83) #[] #[a9 gr 0],.func (.func 84) #[] #[a9 gr 0],.func (.func 85) #[] #[a9 gr 0],.func (.func 87) #[] #[a9 gr 0]] G fun aq ac ab _=>?_
  have ag:UpS (LS n gl gs gr RA ra) w aq:=au.upd ab aa
  refine aE (aL (pf g4 1 G (aK G G (aQ Q8 ac G) (mv 1 G (oE [AI i] G G G (enters_of Tryz.func84 (by kernel_rfl) G) (by decide) (NU ((o.ext e6).updT U ab (fun q=>absurd (ai _ q) (by have:=aa;omega))) (a7 hlb ag.size) hcc hi2) ?_)))))
  rintro _ ah ⟨rfl,ao,aj⟩
  refine bL ?_
  have bc:=((o.ext e6).updT U ab (fun q=>absurd (ai _ q) (by have:=aa;omega))).ldr.no64
  have ar:UpS (LS n gl gs gr RA ra) w ah:=ag.trans aj
  obtain⟨_,_,ae⟩:=(ao).op
  refine aS (cC (aM (aL (bC G G G ((h+1:Nat):Int) (bW (a:=h) (b:=1) G G) (mv 1 G (aS (cB (⟨ah,h+1⟩:a0×Nat) ⟨ar,(by omega),(ae.ldr.cong fun a b _ _=>if_neg (by omega))⟩ (show 1-(h+1)<1-h by omega) G ⟨rfl,rfl,rfl,rfl,rfl,rfl,rfl,rfl,Ht⟩)))))))
 ·refine aL (aN G G G false (dK (a:=h) (b:=1) G G) (aE (aH (aY G (cM (cK (cT (cL (iW [] G Ht ?_)))))))))
  exact⟨rfl,ak.ldr.cong (fun a b _ _=>by simp only [show h≠0 by omega,if_false]),J⟩
theorem E6 {ra:Nat→Option a6}{rc:Nat→Nat}(hL:Ldr lb n cc gl gs gr RA rcap ra rc w Z)(hlb:lb≤w.heap.size)(hcc:cc≤64)(hi2:i<n)(hj2:j<n)(hij:i≠j){sk:Bool}{nk ck:Nat}(hk:Zr w b_k sk Ak nk ck x)(Lk:ln x≤68719476736)(hS:∀b,b<cc→ln (Z i b+x*Z j b)≤68719476736):aR aJ 105 #[a9 gl 0,AI i,AI j,O sk Ak nk ck] w (fun e w'=>e= .returned (.tuple #[])∧Ldr lb n cc gl gs gr RA rcap ra rc w' (fN i j x Z)∧UpS (LS n gl gs gr RA ra) w w'):=by
 refine bQ Tryz.func105 G (n:=29) G (bq G) (args:= [a9 gl 0,AI i,AI j,O sk Ak nk ck]) ?_
 have ai:∀k,LS n gl gs gr RA ra k→k<w.heap.size:=fun k hk=>(hL.lt hk).2
 obtain⟨_,_,ag⟩:=(hL).op
 have cd:=ag.ho.rv.le
 refine bH [(0,a9 gl 0),(1,AI i),(2,AI j),(3,O sk Ak nk ck)] ⟨rfl,rfl,rfl,rfl,Ht⟩ (sr (m3 G G (vs:= (a4 sk Ak nk ck)) G fun g2 v3 nb=>?_))
 have ak:=nb.bk
 have bj:w.heap.size≤g2:=by rw [←nb.at_];exact (UpS.refl (LS n gl gs gr RA ra) w).size
 have e4:=nb.ext
 clear nb
 have J:UpS (LS n gl gs gr RA ra) w v3:=(UpS.refl (LS n gl gs gr RA ra) w).ext e4
 refine aE (aH (aH ?_))
 by_cases aq:x=0
 ·refine aL (lo aG ak (a4 sk Ak nk ck) G G G (bR G G (vs:= [O sk Ak nk ck]) (by kernel_rfl) (by decide) (f8 (hk.ext e4).zi (hk.le (aZ Lk G))) ?_))
  rintro _ v7 ⟨_,rfl,r9,e8⟩
  refine bL ?_
  have aa:UpS (LS n gl gs gr RA ra) w v7:=J.ext e8
  obtain rfl:=r9
  refine aN G G G true (pZ aq) (aE (bJ G (bG (dZ (bF [] G Ht ?_)))))
  exact⟨rfl,(ag.ext (e4.t e8)).ldr.cong (fun a b _ _=>by rw [aq,QU]),aa⟩
 ·refine aL (lo aG ak (a4 sk Ak nk ck) G G G (bR G G (vs:= [O sk Ak nk ck]) (by kernel_rfl) (by decide) (f8 (hk.ext e4).zi (hk.le (aZ Lk G))) ?_))
  rintro _ av ⟨_,rfl,bw,U⟩
  refine bL ?_
  have aa:UpS (LS n gl gs gr RA ra) w av:=J.ext U
  obtain rfl:=bw
  refine aN G G G false (qA aq) (aE (aY G (bA (aM (sr (mv 1 G (pf gl 0 G (pf gl 1 G (aK G G (aQ uA (ag.ext (e4.t U)).bl G) (pu (v:= AI 1) G (mv 1 G (aE (bB ?_)))))))))))))
  refine d6 (T:=a0×Nat) (fun⟨wr,h⟩=> [(0,a9 gl 0),(1,AI i),(2,AI j),(3,O sk Ak nk ck),(7,a9 g2 0),(10,O sk Ak nk ck),(11,AI (bU x 0)),(12,Hs),(13,a9 gl 0),(14,a9 gl 0),(15,a9 gl 1),(16,By (some ⟨gs,0,none⟩) 1 1),(17,AI 1),(18,AI h)]) (fun⟨wr,h⟩=>wr) (fun⟨wr,h⟩=>(UpS (LS n gl gs gr RA ra) w wr)∧(h≤1)∧(Bk wr g2 41 (a4 sk Ak nk ck))∧(Zr wr b_k sk Ak nk ck (x))∧(Ldr lb n cc gl gs gr RA rcap ra rc wr (fun a b=>if h=0 then Z a b else (fN i j x Z) a b))) (fun⟨wr,h⟩=>1-h)
   (⟨av,0⟩:a0×Nat) ⟨aa,(by omega),(ak.ext U),(hk.ext (e4.t U)),((ag.ext (e4.t U)).ldr.cong fun a b _ _=>if_pos G)⟩ G ⟨rfl,rfl,rfl,rfl,rfl,rfl,rfl,rfl,rfl,rfl,rfl,rfl,rfl,rfl,Ht⟩ ?_
  rintro⟨wr,h⟩ ⟨J,_,b_g2,z_g2,ao⟩
  refine d4 [(0,a9 gl 0),(1,AI i),(2,AI j),(3,O sk Ak nk ck),(7,a9 g2 0),(10,O sk Ak nk ck),(11,AI (bU x 0)),(12,Hs),(13,a9 gl 0),(14,a9 gl 0),(15,a9 gl 1),(16,By (some ⟨gs,0,none⟩) 1 1),(17,AI 1),(18,AI h)] wr G ⟨rfl,rfl,rfl,rfl,rfl,rfl,rfl,rfl,rfl,rfl,rfl,rfl,rfl,rfl,Ht⟩ ?_
  obtain⟨_,_,ah⟩:=(ao).op
  refine aH ?_
  by_cases cf:h<1
  ·have bz:h=0:=by omega
   have bg:∀a b,(fun a b=>if h=0 then Z a b else (fN i j x Z) a b) a b=Z a b:=fun a b=>by simp only [bz,if_true]
   have hQ:=ah.ldr.cong (Y:=Z) fun a b _ _=>(bg a b).symm
   obtain⟨_,_,ab⟩:=(hQ).op
   refine aL (aN G G G true (dB (a:=h) (b:=1) G G) (aE (aH (bJ G (bA (aM (aH (bB (sr (aX G G G Tryz.underlying97 iK.size 0 (by omega) ⟨gs,0,none⟩ G (lo iK ab.bs [.func (.func 83) #[] #[a9 gr 0],.func (.func 84) #[] #[a9 gr 0],.func (.func 85) #[] #[a9 gr 0],.func (.func 87) #[] #[a9 gr 0]] G G G (dM G (z:= .agg #[.nilFunc,.nilFunc,.nilFunc,.nilFunc]) (vs:= [.nilFunc,.nilFunc,.nilFunc,.nilFunc]) (fun _=>by kernel_rfl) G fun aj bv nb=>?_)) (hj:=(by decide))))))))))))
   have o:=nb.bk
   have ae:w.heap.size≤aj:=by rw [←nb.at_];exact J.size
   have cm:g2<aj:=by rw [←nb.at_];exact b_g2.lt
   have H:=nb.ext
   clear nb
   have aa:UpS (LS n gl gs gr RA ra) w bv:=J.ext H
   refine fC G G G iK G o (bq G) G [.func (.func 83) #[] #[a9 gr 0],.func (.func 84) #[] #[a9 gr 0],.func (.func 85) #[] #[a9 gr 0],.func (.func 87) #[] #[a9 gr 0]] G fun bo au I _=>?_
   have aw:UpS (LS n gl gs gr RA ra) w bo:=aa.upd I ae
   refine aE (aL (pf aj 2 G (aK G G (aQ QB au G) (mv 2 G (lo aG ((b_g2.ext H).vN I) (a4 sk Ak nk ck) G G G (oE [AI i,AI j,O sk Ak nk ck] G G G (enters_of Tryz.func85 (by kernel_rfl) G) (by decide) (NY ((ab.ext H).updT o I (fun q=>absurd (ai _ q) (by have:=ae;omega))) (a7 hlb aw.size) hcc hi2 hj2 hij ((z_g2.ext H).updT o I) Lk hS) ?_))))))
   rintro _ bi ⟨rfl,az,ac⟩
   refine bL ?_
   have bc:=((ab.ext H).updT o I (fun q=>absurd (ai _ q) (by have:=ae;omega))).ldr.no64
   have bu:UpS (LS n gl gs gr RA ra) w bi:=aw.trans ac
   obtain⟨_,_,bh⟩:=(az).op
   refine aS (cC (aM (aL (bC G G G ((h+1:Nat):Int) (bW (a:=h) (b:=1) G G) (mv 1 G (aS (cB (⟨bi,h+1⟩:a0×Nat) ⟨bu,(by omega),(((b_g2.ext H).vN I).upS ac (fun q=>absurd (ai _ q) (by have:=bj;omega))),(((z_g2.ext H).updT o I).upS ac bc),(bh.ldr.cong fun a b _ _=>if_neg (by omega))⟩ (show 1-(h+1)<1-h by omega) G ⟨rfl,rfl,rfl,rfl,rfl,rfl,rfl,rfl,rfl,rfl,rfl,rfl,rfl,rfl,Ht⟩)))))))
  ·refine aL (aN G G G false (dK (a:=h) (b:=1) G G) (aE (aH (aY G (cM (cK (cT (cL (iW [] G Ht ?_)))))))))
   exact⟨rfl,ah.ldr.cong (fun a b _ _=>by simp only [show h≠0 by omega,if_false]),J⟩
theorem O5 {ra:Nat→Option a6}{rc:Nat→Nat}(hL:Ldr lb n cc gl gs gr RA rcap ra rc w Z)(hlb:lb≤w.heap.size)(hcc:cc≤64)(hi2:i<n)(hj2:j<n)(hij:i≠j){x1 x2 x3 x4:Int}{nk1 ck1:Nat}(hk1:Zr w b_k1 sk1 Ak1 nk1 ck1 x1)(Lk1:ln x1≤68719476736){nk2 ck2:Nat}(hk2:Zr w b_k2 sk2 Ak2 nk2 ck2 x2)(Lk2:ln x2≤68719476736){nk3 ck3:Nat}(hk3:Zr w b_k3 sk3 Ak3 nk3 ck3 x3)(Lk3:ln x3≤68719476736){nk4 ck4:Nat}(hk4:Zr w b_k4 sk4 Ak4 nk4 ck4 x4)(Lk4:ln x4≤68719476736)(hq2:∀b,b<cc→ln (x2*Z j b)≤68719476736)(hq4:∀b,b<cc→ln (x4*Z j b)≤68719476736)(hb1:∀b,b<cc→ln (x1*Z i b+x2*Z j b)≤68719476736)(hb2:∀b,b<cc→ln (x3*Z i b+x4*Z j b)≤68719476736):aR aJ 107 #[a9 gl 0,AI i,AI j,.agg #[.bool sk1,By Ak1 nk1 ck1,.bool sk2,By Ak2 nk2 ck2,.bool sk3,By Ak3 nk3 ck3,.bool sk4,By Ak4 nk4 ck4]] w (fun e w'=>e= .returned (.tuple #[])∧Ldr lb n cc gl gs gr RA rcap ra rc w' (gI i j x1 x2 x3 x4 Z)∧UpS (LS n gl gs gr RA ra) w w'):=by
 refine bQ Tryz.func107 G (n:=26) G (bq G) (args:= [a9 gl 0,AI i,AI j,.agg #[.bool sk1,By Ak1 nk1 ck1,.bool sk2,By Ak2 nk2 ck2,.bool sk3,By Ak3 nk3 ck3,.bool sk4,By Ak4 nk4 ck4]]) ?_
 have ac:∀k,LS n gl gs gr RA ra k→k<w.heap.size:=fun k hk=>(hL.lt hk).2
 obtain⟨_,_,ae⟩:=(hL).op
 have bv:=ae.ho.rv.le
 refine bH [(0,a9 gl 0),(1,AI i),(2,AI j),(3,.agg #[.bool sk1,By Ak1 nk1 ck1,.bool sk2,By Ak2 nk2 ck2,.bool sk3,By Ak3 nk3 ck3,.bool sk4,By Ak4 nk4 ck4])] ⟨rfl,rfl,rfl,rfl,Ht⟩ (sr (m3 G G (vs:= [.bool sk1,By Ak1 nk1 ck1,.bool sk2,By Ak2 nk2 ck2,.bool sk3,By Ak3 nk3 ck3,.bool sk4,By Ak4 nk4 ck4]) G fun g2 v3 nb=>?_))
 have bj:=nb.bk
 have aw:w.heap.size≤g2:=by rw [←nb.at_];exact (UpS.refl (LS n gl gs gr RA ra) w).size
 have e4:=nb.ext
 clear nb
 have ab:UpS (LS n gl gs gr RA ra) w v3:=(UpS.refl (LS n gl gs gr RA ra) w).ext e4
 refine aE (sr (mv 1 G (pf gl 0 G (pf gl 1 G (aK G G (aQ uA (ae.ext e4).bl G) (pu (v:= AI 1) G (mv 1 G (aE (bB ?_)))))))))
 refine d6 (T:=a0×Nat) (fun⟨wr,I⟩=> [(0,a9 gl 0),(1,AI i),(2,AI j),(3,.agg #[.bool sk1,By Ak1 nk1 ck1,.bool sk2,By Ak2 nk2 ck2,.bool sk3,By Ak3 nk3 ck3,.bool sk4,By Ak4 nk4 ck4]),(7,a9 g2 0),(10,a9 gl 0),(11,a9 gl 0),(12,a9 gl 1),(13,By (some ⟨gs,0,none⟩) 1 1),(14,AI 1),(15,AI I)]) (fun⟨wr,I⟩=>wr) (fun⟨wr,I⟩=>(UpS (LS n gl gs gr RA ra) w wr)∧(I≤1)∧(Bk wr g2 124 [.bool sk1,By Ak1 nk1 ck1,.bool sk2,By Ak2 nk2 ck2,.bool sk3,By Ak3 nk3 ck3,.bool sk4,By Ak4 nk4 ck4])∧(Zr wr b_k1 sk1 Ak1 nk1 ck1 (x1))∧(Zr wr b_k2 sk2 Ak2 nk2 ck2 (x2))∧(Zr wr b_k3 sk3 Ak3 nk3 ck3 (x3))∧(Zr wr b_k4 sk4 Ak4 nk4 ck4 (x4))∧(Ldr lb n cc gl gs gr RA rcap ra rc wr (fun a b=>if I=0 then Z a b else (gI i j x1 x2 x3 x4 Z) a b))) (fun⟨wr,I⟩=>1-I)
  (⟨v3,0⟩:a0×Nat) ⟨ab,(by omega),bj,(hk1.ext e4),(hk2.ext e4),(hk3.ext e4),(hk4.ext e4),((ae.ext e4).ldr.cong fun a b _ _=>if_pos G)⟩ G ⟨rfl,rfl,rfl,rfl,rfl,rfl,rfl,rfl,rfl,rfl,rfl,Ht⟩ ?_
 rintro⟨wr,I⟩ ⟨ab,_,b_g2,z_g2_1,z_g2_2,z_g2_3,z_g2_4,ah⟩
 refine d4 [(0,a9 gl 0),(1,AI i),(2,AI j),(3,.agg #[.bool sk1,By Ak1 nk1 ck1,.bool sk2,By Ak2 nk2 ck2,.bool sk3,By Ak3 nk3 ck3,.bool sk4,By Ak4 nk4 ck4]),(7,a9 g2 0),(10,a9 gl 0),(11,a9 gl 0),(12,a9 gl 1),(13,By (some ⟨gs,0,none⟩) 1 1),(14,AI 1),(15,AI I)] wr G ⟨rfl,rfl,rfl,rfl,rfl,rfl,rfl,rfl,rfl,rfl,rfl,Ht⟩ ?_
 obtain⟨_,_,ak⟩:=(ah).op
 refine aH ?_
 by_cases bw:I<1
 ·have bo:I=0:=by omega
  have ba:∀a b,(fun a b=>if I=0 then Z a b else (gI i j x1 x2 x3 x4 Z) a b) a b=Z a b:=fun a b=>by simp only [bo,if_true]
  have hQ:=ak.ldr.cong (Y:=Z) fun a b _ _=>(ba a b).symm
  obtain⟨_,_,ag⟩:=(hQ).op
  refine aL (aN G G G true (dB (a:=I) (b:=1) G G) (aE (aH (bJ G (bA (aM (aH (bB (sr (aX G G G Tryz.underlying97 iK.size 0 (by omega) ⟨gs,0,none⟩ G (lo iK ag.bs [.func (.func 83) #[] #[a9 gr 0],.func (.func 84) #[] #[a9 gr 0],.func (.func 85) #[] #[a9 gr 0],.func (.func 87) #[] #[a9 gr 0]] G G G (dM G (z:= .agg #[.nilFunc,.nilFunc,.nilFunc,.nilFunc]) (vs:= [.nilFunc,.nilFunc,.nilFunc,.nilFunc]) (fun _=>by kernel_rfl) G fun g9 az nb=>?_)) (hj:=(by decide))))))))))))
  have h:=nb.bk
  have aa:w.heap.size≤g9:=by rw [←nb.at_];exact ab.size
  have ce:g2<g9:=by rw [←nb.at_];exact b_g2.lt
  have o:=nb.ext
  clear nb
  have bi:UpS (LS n gl gs gr RA ra) w az:=ab.ext o
  refine fC G G G iK G h (bq G) G [.func (.func 83) #[] #[a9 gr 0],.func (.func 84) #[] #[a9 gr 0],.func (.func 85) #[] #[a9 gr 0],.func (.func 87) #[] #[a9 gr 0]] G fun bh aj H _=>?_
  have ao:UpS (LS n gl gs gr RA ra) w bh:=bi.upd H aa
  refine aE (aL (pf g9 3 G (aK G G (aQ QA aj G) (mv 2 G (lo FM ((b_g2.ext o).vN H) [.bool sk1,By Ak1 nk1 ck1,.bool sk2,By Ak2 nk2 ck2,.bool sk3,By Ak3 nk3 ck3,.bool sk4,By Ak4 nk4 ck4] G G G (oE [AI i,AI j,.agg #[.bool sk1,By Ak1 nk1 ck1,.bool sk2,By Ak2 nk2 ck2,.bool sk3,By Ak3 nk3 ck3,.bool sk4,By Ak4 nk4 ck4]] G G G (enters_of Tryz.func87 (by kernel_rfl) G) (by decide) (NX ((ag.ext o).updT h H (fun q=>absurd (ac _ q) (by have:=aa;omega))) (a7 hlb ao.size) hcc hi2 hj2 hij ((z_g2_1.ext o).updT h H) Lk1 ((z_g2_2.ext o).updT h H) Lk2 ((z_g2_3.ext o).updT h H) Lk3 ((z_g2_4.ext o).updT h H) Lk4 hq2 hq4 hb1 hb2) ?_))))))
  rintro _ au ⟨rfl,av,J⟩
  refine bL ?_
  have U:=((ag.ext o).updT h H (fun q=>absurd (ac _ q) (by have:=aa;omega))).ldr.no64
  have bg:UpS (LS n gl gs gr RA ra) w au:=ao.trans J
  obtain⟨_,_,aq⟩:=(av).op
  refine aS (cC (aM (aL (bC G G G ((I+1:Nat):Int) (bW (a:=I) (b:=1) G G) (mv 1 G (aS (cB (⟨au,I+1⟩:a0×Nat) ⟨bg,(by omega),(((b_g2.ext o).vN H).upS J (fun q=>absurd (ac _ q) (by have:=aw;omega))),(((z_g2_1.ext o).updT h H).upS J U),(((z_g2_2.ext o).updT h H).upS J U),(((z_g2_3.ext o).updT h H).upS J U),(((z_g2_4.ext o).updT h H).upS J U),(aq.ldr.cong fun a b _ _=>if_neg (by omega))⟩ (show 1-(I+1)<1-I by omega) G ⟨rfl,rfl,rfl,rfl,rfl,rfl,rfl,rfl,rfl,rfl,rfl,Ht⟩)))))))
 ·refine aL (aN G G G false (dK (a:=I) (b:=1) G G) (aE (aH (aY G (cM (cK (cT (cL (iW [] G Ht ?_)))))))))
  exact⟨rfl,ak.ldr.cong (fun a b _ _=>by simp only [show I≠0 by omega,if_false]),ab⟩
abbrev I6 (x:Nat):Value:= AI (x:Int)
theorem LW:(Tryz.prog.info? 3).map (fun i=>(i.zero,i.size,i.bytes))=some (some (AI 0),1,8):=by kernel_rfl
theorem KU (xs:List Nat)(i x:Nat):(xs.map I6).set i (AI (x:Int))=(xs.set i x).map I6:=by rw [List.map_set]
theorem JO (n:Nat):dL n (Value.int .i64 0)=(dL n 0).map I6:=by rw [List.map_replicate];rfl
theorem vX (w:a0):(sizeOf 3).run aJ w= .ok 1 w:=by kernel_rfl
theorem QS (w:a0):(isAgg 3).run aJ w= .ok false w:=by kernel_rfl
theorem vU:Tryz.prog.underlying 79=some (.slice 3):=Tryz.underlying79
theorem E8 (hb:b≤w.heap.size){s:Bool}{A B:Option a6}{cap cap':Nat}(hx:Zi w s A n cap x)(hl:n≤68719476736)(hy:Zi w t B m cap' y)(hl':m≤68719476736)(h0:0<y):aR aJ 104 #[O s A n cap,O t B m cap'] w (Gv w (T3 (ZR b (x/y)) (ZR b (x%y)) (Is (AI 0)))):=by
 refine (GG hx hl hy hl' (by omega)).mono fun e w' h=>?_
 obtain⟨q,r,U,I⟩:=h
 have o:=U.out
 have h3:=o.eq
 have J:=o.pos h0
 obtain⟨H,e2⟩:=(Int.ediv_emod_unique (b:=y) h0).2 ⟨show r+y*q=x by rw [Int.mul_comm];omega,J⟩
 rw [H,e2];exact DH hb _ _ I
theorem mH (_hy:0<y)(h:ln x≤K):ln (x/y)≤K:=by
 refine a7 (fJ ?_) h
 have o:=Int.natAbs_ediv_le_natAbs x y
 exact o
theorem xJ (hy:0<y)(h:ln y≤K):ln (x%y)≤K:=by
 refine a7 (fJ ?_) h
 have o:=Int.emod_nonneg x (show y≠0 by omega)
 have H:=Int.emod_lt_of_pos x hy
 omega
def dV (c n t s:Nat)(Z:Mx):Mx:=fZ (fun k=>ldr c (Z k)) (n-1-t) s (iF (fun k=>ldr c (Z k)) n t Z)
structure Szt (c n R B:Nat)(Z:Mx):Prop where
 ech:Ech c n Z
 ent:∀i b,i<n→b<c→ln (Z i b)≤R
 fin:∀i b,i<n→b<c→ln (gE c n Z i b)≤B
section
variable {c n R B t s k:Nat}{Z:Mx}
theorem BH (ld:Nat→Nat){a:Nat}:∀t,a<n-t→iF ld n t Z a=Z a
 | 0,_=>rfl
 | t+1,h=>by
  show fZ ld (n-1-t) t (iF ld n t Z) a=_
  rw [qF ld (by omega),BH ld t (by omega)]
theorem BF (ht:t<n)(hk:n-1-t<k):dV c n t s Z k=gE c n Z k:=by
 unfold dV gE
 rw [qF _ (by omega)]
 have h:=BI (fun k=>ldr c (Z k)) n Z (k:=k) (t:=t) (by omega) (n-t) (by omega)
 rw [show t+(n-t)=n by omega] at h
 exact h.symm
theorem BG (b:Nat):dV c n t (s+1) Z (n-1-t) b=dV c n t s Z (n-1-t) b+ -(dV c n t s Z (n-1-t) (ldr c (Z (n-1-t+1+s)))/dV c n t s Z (n-1-t+1+s) (ldr c (Z (n-1-t+1+s))))*dV c n t s Z (n-1-t+1+s) b:=jO _ _ _ _ _
theorem Szt.piv (h:Szt c n R B Z)(ht:t<n)(hk:n-1-t<k)(hkn:k<n):0<dV c n t s Z k (ldr c (Z k)):=by
 rw [BF ht hk]
 have o:=vZ h.ech n (aI n)
 unfold gE
 rw [o.pv k hkn]
 exact h.ech.pos k hkn
theorem Szt.oth (h:Szt c n R B Z)(ht:t<n)(hk:n-1-t<k)(hkn:k<n)(hb:b<c):ln (dV c n t s Z k b)≤B:=by rw [BF ht hk];exact h.fin k b hkn hb
theorem Szt.row (h:Szt c n R B Z)(ht:t<n):∀s,s≤t→∀b,b<c→ln (dV c n t s Z (n-1-t) b)≤R+s*(B+1)
 | 0,_,b,hb=>by
  show ln (iF (fun k=>ldr c (Z k)) n t Z (n-1-t) b)≤_
  rw [BH _ t (by omega)]
  exact a7 (h.ent _ b (by omega) hb) (by omega)
 | s+1,hs,b,hb=>by
  have hl:=h.ech.lt (n-1-t+1+s) (by omega)
  rw [BG]
  have H:=h.row ht s (by omega) b hb
  have o:=mH (h.piv (s:=s) ht (show n-1-t<n-1-t+1+s by omega) (by omega)) (h.row ht s (by omega) (ldr c (Z (n-1-t+1+s))) hl)
  rw [←gL] at o
  have I:=k0 H (eX o (h.oth (s:=s) ht (show n-1-t<n-1-t+1+s by omega) (by omega) hb))
  refine a7 I ?_
  rw [gO]
  omega
theorem Szt.rowK (h:Szt c n R B Z)(ht:t<n)(hs:s≤t)(hn:n≤64)(hK:R+65*(B+1)≤K)(hb:b<c):ln (dV c n t s Z (n-1-t) b)≤K:=by
 have o:=h.row ht s hs b hb
 have H:=dX (B+1) (show s≤65 by omega)
 omega
end
theorem kP {ra:Nat→Option a6}{rc:Nat→Nat}(h:LdP lb N c gl gs gr RA rcap ra rc w ps Y Z)(hcc:c≤64)(hi:i<N:=by omega):aR aJ 89 #[By (ra (ps.getD i 0)) c (rc (ps.getD i 0))] w (Gv w (Is (AI ((ldr c (Z i):Nat):Int)))):=by
 obtain⟨zs,I,H⟩:=h.rowz hi
 have o:=O4 I.zf0 (a7 hcc (by decide))
 rw [xN H] at o
 exact o
theorem qQ {ra:Nat→Option a6}{rc:Nat→Nat}(hL:Ldr lb n cc gl gs gr RA rcap ra rc w Z)(hlb:lb≤w.heap.size)(hcc:cc≤64){R:Nat}(hn:n≤64)(hS:Szt cc m R B Z)(hm:m≤n:=by omega)(hK:R+65*(B+1)≤68719476736:=by omega):aR aJ 90 #[a9 gl 0,AI m] w (fun e w'=>e= .returned (.tuple #[])∧Ldr lb n cc gl gs gr RA rcap ra rc w' (gE cc m Z)∧UpS (LS n gl gs gr RA ra) w w'):=by
 refine bQ Tryz.func90 G (n:=79) G (bq G) (args:= [a9 gl 0,AI m]) ?_
 have bc:∀k,LS n gl gs gr RA ra k→k<w.heap.size:=fun k hk=>(hL.lt hk).2
 obtain⟨_,_,jg⟩:=(hL).op
 have ox:=jg.ho.rv.le
 refine bH [(0,a9 gl 0),(1,AI m)] ⟨rfl,rfl,Ht⟩ (sr (mv 1 G (GS G (k:=m) G G G vU LW G (by decide) (by omega) (by decide) fun g2 v3 mj jr e6=>?_)))
 rw [JO] at jr
 have gy:w.heap.size≤g2:=by rw [←mj];exact (UpS.refl (LS n gl gs gr RA ra) w).size
 clear mj
 have o:UpS (LS n gl gs gr RA ra) w v3:=(UpS.refl (LS n gl gs gr RA ra) w).ext e6
 refine mv 1 G (aE (aH (sr (mv 1 G (pu (v:= AI m) G (mv 1 G (aE (bB ?_))))))))
 refine d6 (T:=a0×Nat×List Nat) (fun⟨wr,i,ls⟩=> [(0,a9 gl 0),(1,AI m),(4,By (some ⟨g2,0,none⟩) m m),(12,AI m),(13,By (some ⟨g2,0,none⟩) m m),(14,By (some ⟨g2,0,none⟩) m m),(15,AI m),(16,AI i)]) (fun⟨wr,i,ls⟩=>wr) (fun⟨wr,i,ls⟩=>(UpS (LS n gl gs gr RA ra) w wr)∧(i≤m)∧(Ldr lb n cc gl gs gr RA rcap ra rc wr Z)∧(Bk wr g2 3 (ls.map I6))∧(ls.length=m)∧(∀a,a<i→ls.getD a 0=ldr cc (Z a))) (fun⟨wr,i,ls⟩=>m-i)
  (⟨v3,0,dL m 0⟩:a0×Nat×List Nat) ⟨o,(by omega),(jg.ext e6).ldr,jr,List.length_replicate,(fun a h=>absurd h (Nat.not_lt_zero a))⟩ G ⟨rfl,rfl,rfl,rfl,rfl,rfl,rfl,rfl,Ht⟩ ?_
 rintro⟨wr,i,ls⟩ ⟨o,da,ao,ab,cm,co⟩
 refine d4 [(0,a9 gl 0),(1,AI m),(4,By (some ⟨g2,0,none⟩) m m),(12,AI m),(13,By (some ⟨g2,0,none⟩) m m),(14,By (some ⟨g2,0,none⟩) m m),(15,AI m),(16,AI i)] wr G ⟨rfl,rfl,rfl,rfl,rfl,rfl,rfl,rfl,Ht⟩ ?_
 obtain⟨ij,_,bi⟩:=(ao).op
 refine aH ?_
 by_cases my:i<m
 ·refine aL (aN G G G true (dB (a:=i) (b:=m) G G) (aE (aH (bJ G (bA (aM (aH (bB (sr (mv 2 G (aE (aL (mv 1 G ?_)))))))))))))
  refine mv 2 G (pf gl 0 G (pf gl 0 G (aK G G (aQ cG bi.bl G) (mv 1 G ?_))))
  obtain⟨jz,ge,gg⟩:=(bi.ho).rowAt (i:=i) (by omega)
  refine aX G G G d9 cV i G jz ge (aK G G (cP cD gg) (bR G G (vs:= [By (ra (ij.getD i 0)) cc (rc (ij.getD i 0))]) (by kernel_rfl) (by decide) (kP bi hcc (i:=i)) ?_))
  rintro _ oa ⟨_,rfl,od,gn⟩
  refine bL ?_
  have H:UpS (LS n gl gs gr RA ra) w oa:=o.ext gn
  obtain rfl:=od
  refine aX G G G vU vX i G ⟨g2,i,none⟩ (FJ _ _) ?_
  have ep:=(ab.ext gn)
  refine jC G G G vX G ep (LM (by rw [cm];omega)) G ((ls.set i (ldr cc (Z i))).map I6) (KU _ _ _) fun jm iw jh _=>?_
  have cj:UpS (LS n gl gs gr RA ra) w jm:=H.upd jh gy
  refine aS (cC (aM (aL (bC rfl rfl rfl ((i+1:Nat):Int) (bW (a:=i) (b:=1) rfl rfl) (mv 1 rfl (aS (cB (⟨jm,i+1,ls.set i (ldr cc (Z i))⟩:a0×Nat×List Nat) ⟨cj,(by omega),((bi.ext gn).updT ep jh (fun q=>absurd (bc _ q) (by have:=gy;omega))).ldr,iw,(LL (l:=ls) (cm)),(fun a ha=>by rw [jM (by rw [cm];omega)];split <;> rename_i h9;(· rw [h9]);exact co a (by omega))⟩ (show m-(i+1)<m-i by omega) rfl ⟨rfl,rfl,rfl,rfl,rfl,rfl,rfl,rfl,trivial⟩)))))))
 ·refine aL (aN G G G false (dK (a:=i) (b:=m) G G) (aE (aH (aY G (cM (cK (cT (cL (aM (sr (mv 1 G (bC G G G (((m-0:Nat):Int)-1) (zA G) (mv 1 G ?_)))))))))))))
  refine aE (bB ?_)
  have co:∀a,a<m→ls.getD a 0=ldr cc (Z a):=fun a ha=>co a (by omega)
  clear da my
  refine d6 (T:=a0×Nat) (fun⟨wr,i⟩=> [(0,a9 gl 0),(1,AI m),(4,By (some ⟨g2,0,none⟩) m m),(6,AI (((m-i:Nat):Int)-1)),(12,AI m),(13,By (some ⟨g2,0,none⟩) m m),(14,By (some ⟨g2,0,none⟩) m m),(15,AI m),(17,Hs),(31,AI m),(32,AI (((m-0:Nat):Int)-1))]) (fun⟨wr,i⟩=>wr) (fun⟨wr,i⟩=>(UpS (LS n gl gs gr RA ra) w wr)∧(i≤m)∧(Ldr lb n cc gl gs gr RA rcap ra rc wr (dV cc m i 0 Z))∧(Bk wr g2 3 (ls.map I6))) (fun⟨wr,i⟩=>m-i)
   (⟨wr,0⟩:a0×Nat) ⟨o,(by omega),bi.ldr,ab⟩ G ⟨rfl,rfl,rfl,rfl,rfl,rfl,rfl,rfl,rfl,rfl,rfl,Ht⟩ ?_
  rintro⟨wr,i⟩ ⟨o,da,ao,ab⟩
  refine d4 [(0,a9 gl 0),(1,AI m),(4,By (some ⟨g2,0,none⟩) m m),(6,AI (((m-i:Nat):Int)-1)),(12,AI m),(13,By (some ⟨g2,0,none⟩) m m),(14,By (some ⟨g2,0,none⟩) m m),(15,AI m),(17,Hs),(31,AI m),(32,AI (((m-0:Nat):Int)-1))] wr G ⟨rfl,rfl,rfl,rfl,rfl,rfl,rfl,rfl,rfl,rfl,rfl,Ht⟩ ?_
  obtain⟨_,_,cu⟩:=(ao).op
  refine aH (aH ?_)
  by_cases po:i<m
  ·rw [show ((m-i:Nat):Int)-1=((m-1-i:Nat):Int) by omega]
   refine aL (mv 1 G (aN G G G true (QC (a:=m-1-i) (b:=0) G G (by omega)) (aE (bJ G (bA (aM (aH (bB (sr (mv 1 G (bC G G G (((m-1-i)+1:Nat):Int) (bW (a:=m-1-i) (b:=1) G G) (mv 1 G (aS ?_)))))))))))))
   refine aM (bB ?_)
   refine d6 (T:=a0×Nat) (fun⟨ws,s⟩=> [(0,a9 gl 0),(1,AI m),(4,By (some ⟨g2,0,none⟩) m m),(6,AI ((m-1-i:Nat):Int)),(7,AI ((m-1-i+1+s:Nat):Int)),(12,AI m),(13,By (some ⟨g2,0,none⟩) m m),(14,By (some ⟨g2,0,none⟩) m m),(15,AI m),(17,Hs),(31,AI m),(32,AI (((m-0:Nat):Int)-1)),(33,AI ((m-1-i:Nat):Int)),(34,BY),(37,AI ((m-1-i:Nat):Int)),(38,AI (((m-1-i)+1:Nat):Int))]) (fun⟨ws,s⟩=>ws) (fun⟨ws,s⟩=>(UpS (LS n gl gs gr RA ra) w ws)∧(s≤i)∧(Ldr lb n cc gl gs gr RA rcap ra rc ws (dV cc m i s Z))∧(Bk ws g2 3 (ls.map I6))) (fun⟨ws,s⟩=>i-s)
    (⟨wr,0⟩:a0×Nat) ⟨o,(by omega),cu.ldr,ab⟩ G ⟨rfl,rfl,rfl,rfl,rfl,rfl,rfl,rfl,rfl,rfl,rfl,rfl,rfl,rfl,rfl,rfl,Ht⟩ ?_
   rintro⟨ws,s⟩ ⟨o,_,gc,I⟩
   refine d4 [(0,a9 gl 0),(1,AI m),(4,By (some ⟨g2,0,none⟩) m m),(6,AI ((m-1-i:Nat):Int)),(7,AI ((m-1-i+1+s:Nat):Int)),(12,AI m),(13,By (some ⟨g2,0,none⟩) m m),(14,By (some ⟨g2,0,none⟩) m m),(15,AI m),(17,Hs),(31,AI m),(32,AI (((m-0:Nat):Int)-1)),(33,AI ((m-1-i:Nat):Int)),(34,BY),(37,AI ((m-1-i:Nat):Int)),(38,AI (((m-1-i)+1:Nat):Int))] ws G ⟨rfl,rfl,rfl,rfl,rfl,rfl,rfl,rfl,rfl,rfl,rfl,rfl,rfl,rfl,rfl,rfl,Ht⟩ ?_
   obtain⟨aw,_,J⟩:=(gc).op
   refine aH (aH ?_)
   by_cases ph:s<i
   ·refine aL (mv 2 G (aN G G G true (dB (a:=m-1-i+1+s) (b:=m) G G) (aE (bJ G (bA (aM (aH (bB (sr (mv 2 G (aX G G G vU vX (m-1-i+1+s) G ⟨g2,m-1-i+1+s,none⟩ (FJ _ _) (aK G G (L7 QS I (by rw [cm];omega)) (mv 1 G ?_)))))))))))))
    refine aE (aH ?_)
    rw [co (m-1-i+1+s) (by omega)]
    have hJ:ldr cc (Z (m-1-i+1+s))<cc:=hS.ech.lt _ (by omega)
    have cg:∀b,b<cc→ln (dV cc m i s Z (m-1-i) b)≤68719476736:=fun b hb=>hS.rowK (by omega) (by omega) (by omega) hK hb
    have nt:∀b,b<cc→ln (dV cc m i s Z (m-1-i+1+s) b)≤68719476736:=fun b hb=>a7 (hS.oth (by omega) (by omega) (by omega) hb) (by omega)
    have cn:0<dV cc m i s Z (m-1-i+1+s) (ldr cc (Z (m-1-i+1+s))):=hS.piv (by omega) (by omega) (by omega)
    obtain⟨eh,gt,gk⟩:=(J.ho).rowAt (i:=m-1-i) (by omega)
    obtain⟨fa,fh,dh,fq,dq,gx,ic,_,ba⟩:=(J.hc).at (J.per.lt (m-1-i) (by omega)) (show ldr cc (Z (m-1-i+1+s))<cc by omega)
    have ba:=ba.cast (J.ent (m-1-i) (ldr cc (Z (m-1-i+1+s))) (by omega) (by omega)).symm
    obtain⟨fx,fy,gj⟩:=(J.ho).rowAt (i:=m-1-i+1+s) (by omega)
    obtain⟨em,df,dc,fj,fe,gw,ie,_,av⟩:=(J.hc).at (J.per.lt (m-1-i+1+s) (by omega)) (show ldr cc (Z (m-1-i+1+s))<cc by omega)
    have av:=av.cast (J.ent (m-1-i+1+s) (ldr cc (Z (m-1-i+1+s))) (by omega) (by omega)).symm
    refine tY cF 27 [22,23,24] [25,26] [Is (a9 gl 0),Is (a9 gl 0),Is (a9 gl 0),Is (By RA n rcap),Is (AI ((m-1-i:Nat):Int)),Is (.pointer (some eh)),Is (By (ra (aw.getD (m-1-i) 0)) cc (rc (aw.getD (m-1-i) 0))),Is (AI ((ldr cc (Z (m-1-i+1+s)):Nat):Int)),Is (.pointer (some fa)),Is (O fh dh fq dq),Is (a9 gl 0),Is (a9 gl 0),Is (a9 gl 0),Is (By RA n rcap),Is (AI ((m-1-i+1+s:Nat):Int)),Is (.pointer (some fx)),Is (By (ra (aw.getD (m-1-i+1+s) 0)) cc (rc (aw.getD (m-1-i+1+s) 0))),Is (AI ((ldr cc (Z (m-1-i+1+s)):Nat):Int)),Is (.pointer (some em)),Is (O df dc fj fe),T3 (ZR w.heap.size (((dV cc m i s Z) (m-1-i) (ldr cc (Z (m-1-i+1+s))))/((dV cc m i s Z) (m-1-i+1+s) (ldr cc (Z (m-1-i+1+s)))))) (ZR w.heap.size (((dV cc m i s Z) (m-1-i) (ldr cc (Z (m-1-i+1+s))))%((dV cc m i s Z) (m-1-i+1+s) (ldr cc (Z (m-1-i+1+s)))))) (Is (AI 0)),T3 (ZR w.heap.size (((dV cc m i s Z) (m-1-i) (ldr cc (Z (m-1-i+1+s))))/((dV cc m i s Z) (m-1-i+1+s) (ldr cc (Z (m-1-i+1+s)))))) (ZR w.heap.size (((dV cc m i s Z) (m-1-i) (ldr cc (Z (m-1-i+1+s))))%((dV cc m i s Z) (m-1-i+1+s) (ldr cc (Z (m-1-i+1+s)))))) (Is (AI 0)),ZR w.heap.size (((dV cc m i s Z) (m-1-i) (ldr cc (Z (m-1-i+1+s))))/((dV cc m i s Z) (m-1-i+1+s) (ldr cc (Z (m-1-i+1+s))))),ZR w.heap.size (((dV cc m i s Z) (m-1-i) (ldr cc (Z (m-1-i+1+s))))%((dV cc m i s Z) (m-1-i+1+s) (ldr cc (Z (m-1-i+1+s))))),Is (AI 0),PR ws.heap.size 41 [F0,S0],PR ws.heap.size 41 [F0,S0]] [[],[0],[1],[2],[],[3,4],[5],[],[6,7],[8],[],[10],[11],[12],[],[13,14],[15],[],[16,17],[18],[9,19],[20],[21],[21],[21],[],[]] [[],[0],[0,1],[0,1,2],[],[0,1,2,3,4],[0,1,2,3,4,5],[],[0,1,2,3,4,5,6,7],[0,1,2,3,4,5,6,7,8],[],[10],[10,11],[10,11,12],[],[10,11,12,13,14],[10,11,12,13,14,15],[],[10,11,12,13,14,15,16,17],[10,11,12,13,14,15,16,17,18],[0,1,2,3,4,5,6,7,8,9,10,11,12,13,14,15,16,17,18,19],[0,1,2,3,4,5,6,7,8,9,10,11,12,13,14,15,16,17,18,19,20],[0,1,2,3,4,5,6,7,8,9,10,11,12,13,14,15,16,17,18,19,20,21],[0,1,2,3,4,5,6,7,8,9,10,11,12,13,14,15,16,17,18,19,20,21],[0,1,2,3,4,5,6,7,8,9,10,11,12,13,14,15,16,17,18,19,20,21],[],[],[0,1,2,3,4,5,6,7,8,9,10,11,12,13,14,15,16,17,18,19,20,21,22,25,26],[0,1,2,3,4,5,6,7,8,9,10,11,12,13,14,15,16,17,18,19,20,21,22,23,25,26,27],[0,1,2,3,4,5,6,7,8,9,10,11,12,13,14,15,16,17,18,19,20,21,22,23,24,25,26,27,28]] G G ⟨fun _ _ h=>PR.old h,fun _ _ h=>PR.old h,Ht⟩
     (aD G G (aA G G ?_) (aD G G (aA G G ?_) (aD G G (aA G G ?_) (aD G G (aA G G ?_) (aD G G (aA G G ?_) (aD G G (aA G G ?_) (aD G G (aA G G ?_) (aD G G (aA G G ?_) (aD G G (aA G G ?_) (aD G G (aA G G ?_) (aD G G (aA G G ?_) (aD G G (aA G G ?_) (aD G G (aA G G ?_) (aD G G (aA G G ?_) (aD G G (aA G G ?_) (aD G G (aA G G ?_) (aD G G (aA G G ?_) (aD G G (aA G G ?_) (aD G G (aA G G ?_) (aD G G (aA G G ?_) (aD G G (aA G G ?_) (aD G G (aA G G ?_) (gH G G (gM G ?_) (gH G G (gM G ?_) (gH G G (gM G ?_) (aD G G (tP G ?_) (aD G G (tP G ?_) dF))))))))))))))))))))))))))) ?_
    ·intro om nw
     have H:UpS (LS n gl gs gr RA ra) w om:=o.ext nw
     refine a8 (mv 1 G ?_)
     exact aC G aB rfl
    ·intro nx ni
     have H:UpS (LS n gl gs gr RA ra) w nx:=o.ext ni
     refine dk G G (a8 (pf gl 0 G ?_))
     exact aC G aB rfl
    ·intro nh oh
     have H:UpS (LS n gl gs gr RA ra) w nh:=o.ext oh
     refine dk G G (a8 (pf gl 0 G ?_))
     exact aC G aB rfl
    ·intro og kz
     have H:UpS (LS n gl gs gr RA ra) w og:=o.ext kz
     refine dk G G (a8 (aK G G (aQ cG (J.ext kz).bl G) ?_))
     exact aC G aB rfl
    ·intro nf oc
     have H:UpS (LS n gl gs gr RA ra) w nf:=o.ext oc
     refine a8 (mv 1 G ?_)
     exact aC G aB rfl
    ·intro mw ng
     have H:UpS (LS n gl gs gr RA ra) w mw:=o.ext ng
     refine dk G G (dk G G (a8 (aX G G G d9 cV (m-1-i) G eh gt ?_)))
     exact aC G aB rfl
    ·intro nm kq
     have H:UpS (LS n gl gs gr RA ra) w nm:=o.ext kq
     refine dk G G (a8 (aK G G (cP cD (kq.cell gk)) ?_))
     exact aC G aB rfl
    ·intro mx nu
     have H:UpS (LS n gl gs gr RA ra) w mx:=o.ext nu
     refine a8 (mv 1 G ?_)
     exact aC G aB rfl
    ·intro ob oi
     have H:UpS (LS n gl gs gr RA ra) w ob:=o.ext oi
     refine dk G G (dk G G (a8 (aX G G G bM aG.size (ldr cc (Z (m-1-i+1+s))) G fa gx ?_)))
     exact aC G aB rfl
    ·intro oe kp
     have H:UpS (LS n gl gs gr RA ra) w oe:=o.ext kp
     refine dk G G (a8 (aK G G (ic _ kp _ _ aG) ?_))
     exact aC G aB rfl
    ·intro nd mz
     have H:UpS (LS n gl gs gr RA ra) w nd:=o.ext mz
     refine a8 (mv 1 G ?_)
     exact aC G aB rfl
    ·intro mg kj
     have H:UpS (LS n gl gs gr RA ra) w mg:=o.ext kj
     refine dk G G (a8 (pf gl 0 G ?_))
     exact aC G aB rfl
    ·intro iu im
     have H:UpS (LS n gl gs gr RA ra) w iu:=o.ext im
     refine dk G G (a8 (pf gl 0 G ?_))
     exact aC G aB rfl
    ·intro ko cz
     have H:UpS (LS n gl gs gr RA ra) w ko:=o.ext cz
     refine dk G G (a8 (aK G G (aQ cG (J.ext cz).bl G) ?_))
     exact aC G aB rfl
    ·intro jo ks
     have H:UpS (LS n gl gs gr RA ra) w jo:=o.ext ks
     refine a8 (mv 1 G ?_)
     exact aC G aB rfl
    ·intro kx mc
     have H:UpS (LS n gl gs gr RA ra) w kx:=o.ext mc
     refine dk G G (dk G G (a8 (aX G G G d9 cV (m-1-i+1+s) G fx fy ?_)))
     exact aC G aB rfl
    ·intro ip fo
     have H:UpS (LS n gl gs gr RA ra) w ip:=o.ext fo
     refine dk G G (a8 (aK G G (cP cD (fo.cell gj)) ?_))
     exact aC G aB rfl
    ·intro me ll
     have H:UpS (LS n gl gs gr RA ra) w me:=o.ext ll
     refine a8 (mv 1 G ?_)
     exact aC G aB rfl
    ·intro ku jv
     have H:UpS (LS n gl gs gr RA ra) w ku:=o.ext jv
     refine dk G G (dk G G (a8 (aX G G G bM aG.size (ldr cc (Z (m-1-i+1+s))) G em gw ?_)))
     exact aC G aB rfl
    ·intro iq eg
     have H:UpS (LS n gl gs gr RA ra) w iq:=o.ext eg
     refine dk G G (a8 (aK G G (ie _ eg _ _ aG) ?_))
     exact aC G aB rfl
    ·intro kg bv
     have H:UpS (LS n gl gs gr RA ra) w kg:=o.ext bv
     refine dk G G (dk G G (a8 (bR G G (vs:= [O fh dh fq dq,O df dc fj fe]) (by kernel_rfl) (by decide) (E8 H.size (ba.ext bv).zi (ba.le (a7 (cg _ hJ) (by decide))) (av.ext bv).zi (av.le (a7 (nt _ hJ) (by decide))) cn) ?_)))
     rintro _ lf ⟨_,rfl,jf,ew⟩
     refine bL ?_
     have cj:UpS (LS n gl gs gr RA ra) w lf:=H.ext ew
     obtain⟨_,_,_,rfl,⟨_,_,_,_,rfl,il⟩,⟨_,_,_,_,rfl,ji⟩,rfl⟩:=jf
     exact aC G ew ⟨_,_,_,rfl,⟨_,_,_,_,rfl,il⟩,⟨_,_,_,_,rfl,ji⟩,rfl⟩
    ·intro kw mr
     have H:UpS (LS n gl gs gr RA ra) w kw:=o.ext mr
     refine aT G G fun _ _ ka _ du=>?_
     obtain⟨_,_,_,rfl,⟨_,_,_,_,rfl,bh⟩,⟨_,_,_,_,rfl,bw⟩,rfl⟩:=ka
     have bh:=bh.ext du
     have bw:=bw.ext du
     refine a8 (mv 1 G ?_)
     exact aC G aB ⟨_,_,_,rfl,⟨_,_,_,_,rfl,bh⟩,⟨_,_,_,_,rfl,bw⟩,rfl⟩
    ·intro jt ir
     have H:UpS (LS n gl gs gr RA ra) w jt:=o.ext ir
     refine aT G G fun _ _ mh _ fg=>?_
     obtain⟨_,_,_,rfl,⟨mn,ju,jl,iv,rfl,cd⟩,⟨_,_,_,_,rfl,cx⟩,rfl⟩:=mh
     have cd:=cd.ext fg
     have cx:=cx.ext fg
     refine a8 ?_
     exact⟨O mn ju jl iv,rfl,rfl,fun _=>by kernel_rfl,⟨_,_,_,_,rfl,cd⟩⟩
    ·intro ig lj
     have H:UpS (LS n gl gs gr RA ra) w ig:=o.ext lj
     refine aT G G fun _ _ jq _ ez=>?_
     obtain⟨_,_,_,rfl,⟨_,_,_,_,rfl,ee⟩,⟨lh,jk,io,mf,rfl,bg⟩,rfl⟩:=jq
     have ee:=ee.ext ez
     have bg:=bg.ext ez
     refine a8 ?_
     exact⟨O lh jk io mf,rfl,rfl,fun _=>by kernel_rfl,⟨_,_,_,_,rfl,bg⟩⟩
    ·intro ky kv
     have H:UpS (LS n gl gs gr RA ra) w ky:=o.ext kv
     refine aT G G fun _ _ iy _ dd=>?_
     obtain⟨_,_,_,rfl,⟨_,_,_,_,rfl,fr⟩,⟨_,_,_,_,rfl,ft⟩,rfl⟩:=iy
     have fr:=fr.ext dd
     have ft:=ft.ext dd
     refine a8 ?_
     exact⟨AI 0,rfl,rfl,fun _=>by kernel_rfl,rfl⟩
    ·intro kk fv
     have H:UpS (LS n gl gs gr RA ra) w kk:=o.ext fv
     refine a8 (dM G (z:= .agg #[F0,S0]) (vs:= [F0,S0]) (fun _=>by kernel_rfl) G fun _ _ nb=>?_)
     exact aC G nb.ext ⟨⟨_,rfl,by rw [←nb.at_];exact fv.size,nb.bk⟩,_,rfl,Nat.le_of_eq nb.at_⟩
    ·intro ja fk
     have H:UpS (LS n gl gs gr RA ra) w ja:=o.ext fk
     refine a8 (dM G (z:= .agg #[F0,S0]) (vs:= [F0,S0]) (fun _=>by kernel_rfl) G fun _ _ nb=>?_)
     exact aC G nb.ext ⟨⟨_,rfl,by rw [←nb.at_];exact fk.size,nb.bk⟩,_,rfl,Nat.le_of_eq nb.at_⟩
    ·intro lu az
     have H:UpS (LS n gl gs gr RA ra) w lu:=o.ext az
     refine dk G G (dk G G (dk G G (dk G G (dk G G (dk G G (dk G G (dk G G (dk G G (dk G G (dk G G (dk G G (dk G G (dk G G ?_)))))))))))))
     refine dk G G (dk G G (dk G G (dk G G (dk G G (dk G G (aT G G fun _ _ ix _ fb=>?_))))))
     obtain⟨_,_,_,rfl,⟨_,_,_,_,rfl,ey⟩,⟨_,_,_,_,rfl,dy⟩,rfl⟩:=ix
     have ey:=ey.ext fb
     have dy:=dy.ext fb
     refine aT G G fun _ _ ii _ fd=>?_
     obtain⟨_,_,_,rfl,⟨_,_,_,_,rfl,dm⟩,⟨_,_,_,_,rfl,dn⟩,rfl⟩:=ii
     have dm:=dm.ext fd
     have dn:=dn.ext fd
     refine aT G G fun _ _ lw _ kc=>?_
     obtain⟨cf,bz,bo,ce,rfl,ar⟩:=lw
     have ar:=ar.ext kc
     refine aT G G fun _ _ jw _ jy=>?_
     obtain⟨ki,kb,ke,li,rfl,dw⟩:=jw
     have dw:=dw.ext jy
     refine dk G G (aT G G fun _ _ iz _ jd=>?_)
     obtain⟨aj,rfl,aa,ae⟩:=iz
     have ae:=ae.ext jd
     have ot:gs<aj:=cJ J.bs.lt aa
     have oo:g2<aj:=cJ (I).lt aa
     have oz:g2<aj:=cJ I.lt aa
     have aa:w.heap.size≤aj:=a7 o.size aa
     refine aT G G fun _ _ jx _ lm=>?_
     obtain⟨ak,rfl,U,aq⟩:=jx
     have aq:=aq.ext lm
     have ou:gs<ak:=cJ J.bs.lt U
     have ow:g2<ak:=cJ (I).lt U
     have pg:g2<ak:=cJ I.lt U
     have U:w.heap.size≤ak:=a7 o.size U
     refine a8 ?_
     intro bu
     have pb:ak≠aj:=fun e=>bu 26 (by decide) 25 (by decide) (by decide) _ _ G G _ _ G G _ (bE G) (by rw [e];exact bE G)
     clear bu
     refine fC G G G aG G ae (bq G) G (a4 cf bz bo ce) G fun mq ib ag _=>?_
     have cj:UpS (LS n gl gs gr RA ra) w mq:=H.upd ag aa
     have ai:=(aq.vN ag)
     refine fC G G G aG G ai (bq G) G (a4 ki kb ke li) G fun mb _ ah _=>?_
     have kd:UpS (LS n gl gs gr RA ra) w mb:=cj.upd ah U
     refine mv 1 G (aS (dA (aM (aL (mv 3 G (lo aG (ib.vN ah) (a4 cf bz bo ce) G G G ?_))))))
     have oq:ln (-(((dV cc m i s Z) (m-1-i) (ldr cc (Z (m-1-i+1+s))))/((dV cc m i s Z) (m-1-i+1+s) (ldr cc (Z (m-1-i+1+s))))))≤68719476736:=(by rw [gL];exact (mH cn (cg _ hJ)))
     refine bR G G (vs:= [O cf bz bo ce]) (by kernel_rfl) (by decide) (oW kd.size ((ar.updT ae ag).updT ai ah).zi (ar.le (a7 (mH cn (cg _ hJ)) (by decide)))) ?_
     rintro _ jj ⟨_,rfl,kt,au⟩
     refine bL ?_
     have jb:UpS (LS n gl gs gr RA ra) w jj:=kd.ext au
     obtain⟨ma,je,ml,jn,rfl,jp⟩:=kt
     have on:ln (-(((dV cc m i s Z) (m-1-i) (ldr cc (Z (m-1-i+1+s))))/((dV cc m i s Z) (m-1-i+1+s) (ldr cc (Z (m-1-i+1+s))))))≤68719476736:=by rw [gL];exact mH cn (cg _ hJ)
     refine bR G G (vs:= [a9 gl 0,AI ((m-1-i:Nat):Int),AI ((m-1-i+1+s:Nat):Int),O ma je ml jn]) (by kernel_rfl) (by decide) (E6 ((((J.ext az).updT ae ag (fun q=>absurd (bc _ q) (by have:=aa;omega))).updT ai ah (fun q=>absurd (bc _ q) (by have:=U;omega))).ext au).ldr (a7 hlb jb.size) hcc (show m-1-i<n by omega) (show m-1-i+1+s<n by omega) (by omega) jp on (fun b hb=>by rw [←BG];exact hS.rowK (by omega) (by omega) (by omega) hK hb)) ?_
     rintro _ dl ⟨rfl,ia,bj⟩
     refine bL ?_
     have nj:=((((J.ext az).updT ae ag (fun q=>absurd (bc _ q) (by have:=aa;omega))).updT ai ah (fun q=>absurd (bc _ q) (by have:=U;omega))).ext au).ldr.no64
     have mt:UpS (LS n gl gs gr RA ra) w dl:=jb.trans bj
     obtain⟨_,_,fz⟩:=(ia).op
     refine aS (cC (aM (aL (mv 1 G (bC G G G (((m-1-i+1+s)+1:Nat):Int) (bW (a:=m-1-i+1+s) (b:=1) G G) (mv 1 G (aS (cB (⟨dl,s+1⟩:a0×Nat) ⟨mt,(by omega),fz.ldr,(((((I.ext az).vN ag).vN ah).ext au).upS bj (fun q=>absurd (bc _ q) (by have:=gy;omega)))⟩ (show i-(s+1)<i-s by omega) G ⟨rfl,rfl,rfl,rfl,rfl,rfl,rfl,rfl,rfl,rfl,rfl,rfl,rfl,rfl,rfl,rfl,Ht⟩))))))))
   ·refine aL (mv 2 G (aN G G G false (dK (a:=m-1-i+1+s) (b:=m) G G) (aE (aY G (cM (cK (cT (cL (cC (aM (aL (mv 1 G (bC G G G (((m-(i+1):Nat):Int)-1) (zA (show ((m-1-i:Nat):Int)-1=((m-(i+1):Nat):Int)-1 by omega)) ?_)))))))))))))
    refine mv 1 G (aS (cB (⟨ws,i+1⟩:a0×Nat) ⟨o,(by omega),(J.ldr.cong fun a b _ _=>by rw [show s=i by omega];rfl),I⟩ (show m-(i+1)<m-i by omega) G ⟨rfl,rfl,rfl,rfl,rfl,rfl,rfl,rfl,rfl,rfl,rfl,Ht⟩))
  ·refine aL (mv 1 G (aN G G G false (yM (by omega)) (aE (aY G (cM (cK (cT (cL (iW [] G Ht ?_)))))))))
   exact⟨rfl,cu.ldr.cong (fun a b _ _=>by rw [show i=m by omega];rfl),o⟩
theorem OY:∀(n:Nat) (r0 r1 m0 m1:Int),r1.natAbs≤n→ExtI x y r0 r1 m0 m1→∃r a b,ExtI x y r 0 a b:=by
 intro n
 induction n with
 | zero=>
  intro r0 r1 m0 m1 h hI
  obtain rfl:r1=0:=by omega
  exact⟨_,_,_,hI⟩
 | succ n ih=>
  intro r0 r1 m0 m1 h hI
  by_cases hr:r1=0
  ·subst hr;exact⟨_,_,_,hI⟩
  ·exact ih _ _ _ _ (by have:=m8 (x:=r0) hr;omega) (hI.step hr)
theorem yZ (x y:Int):∃u v,Bez x y u v:=by
 by_cases h:y=0
 ·exact⟨_,_,Bez.ofZero h⟩
 ·obtain⟨r,a,b,o⟩:=OY _ _ _ _ _ (aI _) (ExtI.init (x:=x) h)
  exact⟨_,_,(o.done h G).2.2.2.2.2⟩
theorem Bez.ln_u {v:Int}(h:Bez x y u v)(_hx:ln x≤N)(hy:ln y≤N):ln u≤N+1:=by
 by_cases o:y=0
 ·rw [(h.zero o).1]
  refine a7 (qJ (x:=x.sign) ?_ ?_) (by omega) <;> (rcases Int.lt_trichotomy x 0 with h | h | h <;> simp [Int.sign_eq_neg_one_of_neg,Int.sign_eq_one_of_pos,h])
 ·refine a7 (fJ (y:=y) ?_) (Nat.le_succ_of_le hy)
  have H:=h.lo o
  have J:=h.hi o
  have I:0<Int.gcd x y:=Int.gcd_pos_of_ne_zero_right x o
  have U:u*1≤u*(Int.gcd x y:Int):=Int.mul_le_mul_of_nonneg_left (by omega) H
  omega
theorem Bez.ln_v {v:Int}(h:Bez x y u v)(hx:ln x≤N)(hy:ln y≤N):ln v≤N+1:=by
 by_cases o:y=0
 ·rw [(h.zero o).2,D6];omega
 ·refine a7 (fJ (y:=x.natAbs+1) ?_) (a7 (k0 (a:=N) (b:=1) (by rw [k8];exact hx) (by rw [tL];exact aI _)) ?_)
  ·have H:=h.lo o
   have h2:=h.hi o
   have h3:0<Int.gcd x y:=Int.gcd_pos_of_ne_zero_right x o
   have e:=h.eq
   have h4:u*1≤u*(Int.gcd x y:Int):=Int.mul_le_mul_of_nonneg_left (by omega) H
   have J:u.natAbs≤y.natAbs:=by omega
   have aa:Int.gcd x y≤y.natAbs:=Nat.le_of_dvd (by omega) (Int.gcd_dvd_natAbs_right x y)
   have I:(y*v).natAbs≤(x.natAbs+1)*y.natAbs:=by
    have U:y*v=Int.gcd x y-x*u:=by omega
    have h7:(x*u).natAbs≤x.natAbs*y.natAbs:=by rw [Int.natAbs_mul];exact Nat.mul_le_mul_left _ J
    rw [U,dS,Nat.one_mul]
    omega
   rw [Int.natAbs_mul,Nat.mul_comm] at I
   have h8:=Nat.le_of_mul_le_mul_right I (by omega)
   omega
  ·refine Nat.le_of_eq ?_
   have:1≤N:=by
    refine Nat.pos_of_ne_zero fun _=>o ?_
    have H:ln y=0:=by omega
    have:=k9.1 (show (wd y.natAbs).length=0 from H)
    omega
   omega
noncomputable def yR (x y:Int):Int:=jB (yZ x y)
noncomputable def yQ (x y:Int):Int:=jB (lX (yZ x y))
theorem uB (x y:Int):Bez x y (yR x y) (yQ x y):=lX (lX (yZ x y))
theorem Bez.uniq {v u' v':Int}(h:Bez x y u v)(h':Bez x y u' v'):u=u'∧v=v':=by
 by_cases o:y=0
 ·obtain⟨a,b⟩:=h.zero o
  obtain⟨c,d⟩:=h'.zero o
  exact⟨by rw [a,c],by rw [b,d]⟩
 ·have hg:=Int.gcd_pos_of_ne_zero_right x o
  have h1:=h.eq
  have I:=h'.eq
  have U:=h.lo o
  have h4:=h'.lo o
  have h5:=h.hi o
  have h6:=h'.hi o
  have H:y∣u*(Int.gcd x y:Int)-u'*(Int.gcd x y:Int):=by
   refine⟨u*v'-u'*v,?_⟩
   generalize (Int.gcd x y:Int)=g at*
   have e:u*g-u'*g=u*(x*u'+y*v')-u'*(x*u+y*v):=by rw [h1,I]
   rw [e];grind
  have h7:0≤u*(Int.gcd x y:Int):=Int.mul_nonneg U (by omega)
  have h8:0≤u'*(Int.gcd x y:Int):=Int.mul_nonneg h4 (by omega)
  have hz:=Int.eq_zero_of_dvd_of_natAbs_lt_natAbs H (by omega)
  have J:u=u':=Int.eq_of_mul_eq_mul_right (show (Int.gcd x y:Int)≠0 by omega) (by omega)
  subst J
  exact⟨rfl,Int.eq_of_mul_eq_mul_left o (by omega)⟩
theorem Bez.eqs {v:Int}(h:Bez x y u v):u=yR x y∧v=yQ x y:=h.uniq (uB x y)
noncomputable def dO (x y:Int):Int×Int:=(yR x y,yQ x y)
theorem mT:nZ dO:=fun x y=>(uB x y).eq
theorem OO {ca:Nat}{nb cb:Nat}(hb:b≤w.heap.size)(hx:Zi w sa Aa na ca x)(la:na≤17179869184)(hy:Zi w sb Ab nb cb y)(lb:nb≤17179869184):aR aJ 106 #[O sa Aa na ca,O sb Ab nb cb] w (Gv w (T3 (ZR b (Int.gcd x y:Int)) (ZR b (dO x y).1) (ZR b (dO x y).2))):=
 (ON hb hx la hy lb).mono fun _ _ ⟨u,v,h,I,H,o,J⟩=>⟨I,H,(by obtain⟨rfl,rfl⟩:=h.eqs;exact o),J⟩
def cH (k q j:Nat)(Z:Mx):Mx:=fN q k (-(Z q j/Z k j)) Z
section
variable {c k q j S B:Nat}{Z:Mx}
theorem x9 (h:k≠q):cH k q j Z k=Z k:=j0 _ _ _ h
theorem x8 (b:Nat):cH k q j Z q b=Z q b+ -(Z q j/Z k j)*Z k b:=jO _ _ _ _ _
theorem KP:cH k q j Z q j=Z q j%Z k j:=by rw [x8,qR]
theorem D1 {E:Int→Int→Int×Int}(h:Z q j%Z k j=0):fI E k q j Z=cH k q j Z:=by
 unfold fI;rw [if_pos (by rw [qR];exact h)];rfl
theorem D2 {E:Int→Int→Int×Int}(hkq:k≠q)(h:Z q j%Z k j≠0):fI E k q j Z=gI k q (E (cH k q j Z k j) (cH k q j Z q j)).1 (E (cH k q j Z k j) (cH k q j Z q j)).2
  (-((cH k q j Z q j).tdiv (Int.gcd (cH k q j Z k j) (cH k q j Z q j):Int))) ((cH k q j Z k j).tdiv (Int.gcd (cH k q j Z k j) (cH k q j Z q j):Int)) (cH k q j Z):=by
 unfold fI
 rw [if_neg (by rw [qR];exact h),x9 hkq,x8]
 rfl
structure Szm (c k q j S B:Nat)(Z:Mx):Prop where
 ne:k≠q
 jc:j<c
 pos:0<Z k j
 kB:∀b,b<c→ln (Z k b)≤B
 qS:∀b,b<c→ln (Z q b)≤S
theorem Szm.ad (h:Szm c k q j S B Z)(hb:b<c):ln (Z q b+ -(Z q j/Z k j)*Z k b)≤S+B+1:=by
 have o:=mH h.pos (h.qS j h.jc)
 rw [←gL] at o
 have H:=k0 (h.qS b hb) (eX o (h.kB b hb))
 omega
theorem Szm.xk (h:Szm c k q j S B Z)(hb:b<c):ln (cH k q j Z k b)≤B:=by rw [x9 h.ne];exact h.kB b hb
theorem Szm.xq (h:Szm c k q j S B Z)(hb:b<c):ln (cH k q j Z q b)≤S+B+1:=by rw [x8];exact h.ad hb
theorem Szm.v (h:Szm c k q j S B Z):ln (cH k q j Z q j)≤B:=by rw [KP];exact xJ h.pos (h.kB j h.jc)
theorem Szm.p (h:Szm c k q j S B Z):ln (cH k q j Z k j)≤B:=h.xk h.jc
theorem Szm.x1 (h:Szm c k q j S B Z):ln (dO (cH k q j Z k j) (cH k q j Z q j)).1≤B+1:=(uB _ _).ln_u h.p h.v
theorem Szm.x2 (h:Szm c k q j S B Z):ln (dO (cH k q j Z k j) (cH k q j Z q j)).2≤B+1:=(uB _ _).ln_v h.p h.v
theorem Szm.x3 (h:Szm c k q j S B Z):ln (-((cH k q j Z q j).tdiv (Int.gcd (cH k q j Z k j) (cH k q j Z q j):Int)))≤B+1:=by rw [gL];exact a7 (gK _ _) (Nat.le_succ_of_le h.v)
theorem Szm.x4 (h:Szm c k q j S B Z):ln ((cH k q j Z k j).tdiv (Int.gcd (cH k q j Z k j) (cH k q j Z q j):Int))≤B+1:=a7 (gK _ _) (Nat.le_succ_of_le h.p)
theorem Szm.lin (h:Szm c k q j S B Z)(hx:ln x≤B+1)(hy:ln y≤B+1)(hb:b<c):ln (x*cH k q j Z k b+y*cH k q j Z q b)≤S+2*B+4:=by
 have o:=k0 (eX hx (h.xk hb)) (eX hy (h.xq hb))
 have H:=h.qS b hb
 omega
theorem Szm.lin1 (h:Szm c k q j S B Z)(hy:ln y≤B+1)(hb:b<c):ln (y*cH k q j Z q b)≤S+2*B+4:=by
 have o:=eX hy (h.xq hb)
 omega
end
theorem O6 {ra:Nat→Option a6}{rc:Nat→Nat}(hL:Ldr lb n cc gl gs gr RA rcap ra rc w Z)(hlb:lb≤w.heap.size)(hcc:cc≤64){q S:Nat}(hk2:k<n)(hq2:q<n)(hS:Szm cc k q j S B Z)(hK:S+2*B+4≤68719476736)(hB1:B+1≤17179869184):aR aJ 91 #[a9 gl 0,AI k,AI q,AI j] w (fun e w'=>e= .returned (.tuple #[])∧Ldr lb n cc gl gs gr RA rcap ra rc w' (fI dO k q j Z)∧UpS (LS n gl gs gr RA ra) w w'):=by
 have cn:B≤17179869184:=by omega
 have kk:S≤68719476736:=by omega
 have As:=hS.jc
 have jw:B+1≤68719476736:=by omega
 refine bQ Tryz.func91 G (n:=105) G (bq G) (args:= [a9 gl 0,AI k,AI q,AI j]) ?_
 have ar:∀k,LS n gl gs gr RA ra k→k<w.heap.size:=fun k hk=>(hL.lt hk).2
 obtain⟨em,_,ee⟩:=(hL).op
 have Af:=ee.ho.rv.le
 refine bH [(0,a9 gl 0),(1,AI k),(2,AI q),(3,AI j)] ⟨rfl,rfl,rfl,rfl,Ht⟩ (aH ?_)
 obtain⟨ke,wn,ro⟩:=(ee.ho).rowAt (i:=q) (by omega)
 obtain⟨ju,jy,kd,ki,kc,vw,qf,_,ks⟩:=(ee.hc).at (ee.per.lt q (by omega)) (show j<cc by omega)
 have ks:=ks.cast (ee.ent q j (by omega) (by omega)).symm
 obtain⟨kb,xz,vu⟩:=(ee.ho).rowAt (i:=k) (by omega)
 obtain⟨kp,jv,jx,jp,jz,sn,wy,_,ku⟩:=(ee.hc).at (ee.per.lt k (by omega)) (show j<cc by omega)
 have ku:=ku.cast (ee.ent k j (by omega) (by omega)).symm
 refine tY cF 27 [22,23,24] [25,26] [Is (a9 gl 0),Is (a9 gl 0),Is (a9 gl 0),Is (By RA n rcap),Is (AI q),Is (.pointer (some ke)),Is (By (ra (em.getD q 0)) cc (rc (em.getD q 0))),Is (AI j),Is (.pointer (some ju)),Is (O jy kd ki kc),Is (a9 gl 0),Is (a9 gl 0),Is (a9 gl 0),Is (By RA n rcap),Is (AI k),Is (.pointer (some kb)),Is (By (ra (em.getD k 0)) cc (rc (em.getD k 0))),Is (AI j),Is (.pointer (some kp)),Is (O jv jx jp jz),T3 (ZR w.heap.size ((Z q j)/(Z k j))) (ZR w.heap.size ((Z q j)%(Z k j))) (Is (AI 0)),T3 (ZR w.heap.size ((Z q j)/(Z k j))) (ZR w.heap.size ((Z q j)%(Z k j))) (Is (AI 0)),ZR w.heap.size ((Z q j)/(Z k j)),ZR w.heap.size ((Z q j)%(Z k j)),Is (AI 0),PR w.heap.size 41 [F0,S0],PR w.heap.size 41 [F0,S0]] [[],[0],[1],[2],[],[3,4],[5],[],[6,7],[8],[],[10],[11],[12],[],[13,14],[15],[],[16,17],[18],[9,19],[20],[21],[21],[21],[],[]] [[],[0],[0,1],[0,1,2],[],[0,1,2,3,4],[0,1,2,3,4,5],[],[0,1,2,3,4,5,6,7],[0,1,2,3,4,5,6,7,8],[],[10],[10,11],[10,11,12],[],[10,11,12,13,14],[10,11,12,13,14,15],[],[10,11,12,13,14,15,16,17],[10,11,12,13,14,15,16,17,18],[0,1,2,3,4,5,6,7,8,9,10,11,12,13,14,15,16,17,18,19],[0,1,2,3,4,5,6,7,8,9,10,11,12,13,14,15,16,17,18,19,20],[0,1,2,3,4,5,6,7,8,9,10,11,12,13,14,15,16,17,18,19,20,21],[0,1,2,3,4,5,6,7,8,9,10,11,12,13,14,15,16,17,18,19,20,21],[0,1,2,3,4,5,6,7,8,9,10,11,12,13,14,15,16,17,18,19,20,21],[],[],[0,1,2,3,4,5,6,7,8,9,10,11,12,13,14,15,16,17,18,19,20,21,22,25,26],[0,1,2,3,4,5,6,7,8,9,10,11,12,13,14,15,16,17,18,19,20,21,22,23,25,26,27],[0,1,2,3,4,5,6,7,8,9,10,11,12,13,14,15,16,17,18,19,20,21,22,23,24,25,26,27,28]] G G ⟨fun _ _ h=>PR.old h,fun _ _ h=>PR.old h,Ht⟩
  (aD G G (aA G G ?_) (aD G G (aA G G ?_) (aD G G (aA G G ?_) (aD G G (aA G G ?_) (aD G G (aA G G ?_) (aD G G (aA G G ?_) (aD G G (aA G G ?_) (aD G G (aA G G ?_) (aD G G (aA G G ?_) (aD G G (aA G G ?_) (aD G G (aA G G ?_) (aD G G (aA G G ?_) (aD G G (aA G G ?_) (aD G G (aA G G ?_) (aD G G (aA G G ?_) (aD G G (aA G G ?_) (aD G G (aA G G ?_) (aD G G (aA G G ?_) (aD G G (aA G G ?_) (aD G G (aA G G ?_) (aD G G (aA G G ?_) (aD G G (aA G G ?_) (gH G G (gM G ?_) (gH G G (gM G ?_) (gH G G (gM G ?_) (aD G G (tP G ?_) (aD G G (tP G ?_) dF))))))))))))))))))))))))))) ?_
 ·intro yo yg
  have o:UpS (LS n gl gs gr RA ra) w yo:=(UpS.refl (LS n gl gs gr RA ra) w).ext yg
  refine a8 (mv 1 G ?_)
  exact aC G aB rfl
 ·intro yh zu
  have o:UpS (LS n gl gs gr RA ra) w yh:=(UpS.refl (LS n gl gs gr RA ra) w).ext zu
  refine dk G G (a8 (pf gl 0 G ?_))
  exact aC G aB rfl
 ·intro zv yx
  have o:UpS (LS n gl gs gr RA ra) w zv:=(UpS.refl (LS n gl gs gr RA ra) w).ext yx
  refine dk G G (a8 (pf gl 0 G ?_))
  exact aC G aB rfl
 ·intro yj wg
  have o:UpS (LS n gl gs gr RA ra) w yj:=(UpS.refl (LS n gl gs gr RA ra) w).ext wg
  refine dk G G (a8 (aK G G (aQ cG (ee.ext wg).bl G) ?_))
  exact aC G aB rfl
 ·intro zp yi
  have o:UpS (LS n gl gs gr RA ra) w zp:=(UpS.refl (LS n gl gs gr RA ra) w).ext yi
  refine a8 (mv 1 G ?_)
  exact aC G aB rfl
 ·intro yv za
  have o:UpS (LS n gl gs gr RA ra) w yv:=(UpS.refl (LS n gl gs gr RA ra) w).ext za
  refine dk G G (dk G G (a8 (aX G G G d9 cV q G ke wn ?_)))
  exact aC G aB rfl
 ·intro zd tb
  have o:UpS (LS n gl gs gr RA ra) w zd:=(UpS.refl (LS n gl gs gr RA ra) w).ext tb
  refine dk G G (a8 (aK G G (cP cD (tb.cell ro)) ?_))
  exact aC G aB rfl
 ·intro yl yq
  have o:UpS (LS n gl gs gr RA ra) w yl:=(UpS.refl (LS n gl gs gr RA ra) w).ext yq
  refine a8 (mv 1 G ?_)
  exact aC G aB rfl
 ·intro yk ym
  have o:UpS (LS n gl gs gr RA ra) w yk:=(UpS.refl (LS n gl gs gr RA ra) w).ext ym
  refine dk G G (dk G G (a8 (aX G G G bM aG.size j G ju vw ?_)))
  exact aC G aB rfl
 ·intro yt ya
  have o:UpS (LS n gl gs gr RA ra) w yt:=(UpS.refl (LS n gl gs gr RA ra) w).ext ya
  refine dk G G (a8 (aK G G (qf _ ya _ _ aG) ?_))
  exact aC G aB rfl
 ·intro yz zg
  have o:UpS (LS n gl gs gr RA ra) w yz:=(UpS.refl (LS n gl gs gr RA ra) w).ext zg
  refine a8 (mv 1 G ?_)
  exact aC G aB rfl
 ·intro yw yu
  have o:UpS (LS n gl gs gr RA ra) w yw:=(UpS.refl (LS n gl gs gr RA ra) w).ext yu
  refine dk G G (a8 (pf gl 0 G ?_))
  exact aC G aB rfl
 ·intro yn zj
  have o:UpS (LS n gl gs gr RA ra) w yn:=(UpS.refl (LS n gl gs gr RA ra) w).ext zj
  refine dk G G (a8 (pf gl 0 G ?_))
  exact aC G aB rfl
 ·intro zo tc
  have o:UpS (LS n gl gs gr RA ra) w zo:=(UpS.refl (LS n gl gs gr RA ra) w).ext tc
  refine dk G G (a8 (aK G G (aQ cG (ee.ext tc).bl G) ?_))
  exact aC G aB rfl
 ·intro vf vi
  have o:UpS (LS n gl gs gr RA ra) w vf:=(UpS.refl (LS n gl gs gr RA ra) w).ext vi
  refine a8 (mv 1 G ?_)
  exact aC G aB rfl
 ·intro xo tf
  have o:UpS (LS n gl gs gr RA ra) w xo:=(UpS.refl (LS n gl gs gr RA ra) w).ext tf
  refine dk G G (dk G G (a8 (aX G G G d9 cV k G kb xz ?_)))
  exact aC G aB rfl
 ·intro qz oa
  have o:UpS (LS n gl gs gr RA ra) w qz:=(UpS.refl (LS n gl gs gr RA ra) w).ext oa
  refine dk G G (a8 (aK G G (cP cD (oa.cell vu)) ?_))
  exact aC G aB rfl
 ·intro vv xh
  have o:UpS (LS n gl gs gr RA ra) w vv:=(UpS.refl (LS n gl gs gr RA ra) w).ext xh
  refine a8 (mv 1 G ?_)
  exact aC G aB rfl
 ·intro yc xd
  have o:UpS (LS n gl gs gr RA ra) w yc:=(UpS.refl (LS n gl gs gr RA ra) w).ext xd
  refine dk G G (dk G G (a8 (aX G G G bM aG.size j G kp sn ?_)))
  exact aC G aB rfl
 ·intro xn mt
  have o:UpS (LS n gl gs gr RA ra) w xn:=(UpS.refl (LS n gl gs gr RA ra) w).ext mt
  refine dk G G (a8 (aK G G (wy _ mt _ _ aG) ?_))
  exact aC G aB rfl
 ·intro vk iz
  have o:UpS (LS n gl gs gr RA ra) w vk:=(UpS.refl (LS n gl gs gr RA ra) w).ext iz
  refine dk G G (dk G G (a8 (bR G G (vs:= [O jy kd ki kc,O jv jx jp jz]) (by kernel_rfl) (by decide) (E8 o.size (ks.ext iz).zi (ks.le (a7 (a7 (hS.qS _ hS.jc) kk) (by decide))) (ku.ext iz).zi (ku.le (a7 (a7 (hS.kB _ hS.jc) (show B≤17179869184 by omega)) (by decide))) hS.pos) ?_)))
  rintro _ qg ⟨_,rfl,uf,mq⟩
  refine bL ?_
  have uw:UpS (LS n gl gs gr RA ra) w qg:=o.ext mq
  obtain⟨_,_,_,rfl,⟨_,_,_,_,rfl,qc⟩,⟨_,_,_,_,rfl,ye⟩,rfl⟩:=uf
  exact aC G mq ⟨_,_,_,rfl,⟨_,_,_,_,rfl,qc⟩,⟨_,_,_,_,rfl,ye⟩,rfl⟩
 ·intro sj ua
  have o:UpS (LS n gl gs gr RA ra) w sj:=(UpS.refl (LS n gl gs gr RA ra) w).ext ua
  refine aT G G fun _ _ sd _ mz=>?_
  obtain⟨_,_,_,rfl,⟨_,_,_,_,rfl,jm⟩,⟨_,_,_,_,rfl,ip⟩,rfl⟩:=sd
  have jm:=jm.ext mz
  have ip:=ip.ext mz
  refine a8 (mv 1 G ?_)
  exact aC G aB ⟨_,_,_,rfl,⟨_,_,_,_,rfl,jm⟩,⟨_,_,_,_,rfl,ip⟩,rfl⟩
 ·intro pk ur
  have o:UpS (LS n gl gs gr RA ra) w pk:=(UpS.refl (LS n gl gs gr RA ra) w).ext ur
  refine aT G G fun _ _ xv _ ni=>?_
  obtain⟨_,_,_,rfl,⟨td,yd,xy,se,rfl,iu⟩,⟨_,_,_,_,rfl,oq⟩,rfl⟩:=xv
  have iu:=iu.ext ni
  have oq:=oq.ext ni
  refine a8 ?_
  exact⟨O td yd xy se,rfl,rfl,fun _=>by kernel_rfl,⟨_,_,_,_,rfl,iu⟩⟩
 ·intro va pq
  have o:UpS (LS n gl gs gr RA ra) w va:=(UpS.refl (LS n gl gs gr RA ra) w).ext pq
  refine aT G G fun _ _ pw _ lm=>?_
  obtain⟨_,_,_,rfl,⟨_,_,_,_,rfl,nd⟩,⟨uu,ww,tz,uy,rfl,ja⟩,rfl⟩:=pw
  have nd:=nd.ext lm
  have ja:=ja.ext lm
  refine a8 ?_
  exact⟨O uu ww tz uy,rfl,rfl,fun _=>by kernel_rfl,⟨_,_,_,_,rfl,ja⟩⟩
 ·intro vn qx
  have o:UpS (LS n gl gs gr RA ra) w vn:=(UpS.refl (LS n gl gs gr RA ra) w).ext qx
  refine aT G G fun _ _ qq _ mn=>?_
  obtain⟨_,_,_,rfl,⟨_,_,_,_,rfl,li⟩,⟨_,_,_,_,rfl,mb⟩,rfl⟩:=qq
  have li:=li.ext mn
  have mb:=mb.ext mn
  refine a8 ?_
  exact⟨AI 0,rfl,rfl,fun _=>by kernel_rfl,rfl⟩
 ·intro wu ll
  have o:UpS (LS n gl gs gr RA ra) w wu:=(UpS.refl (LS n gl gs gr RA ra) w).ext ll
  refine a8 (dM G (z:= .agg #[F0,S0]) (vs:= [F0,S0]) (fun _=>by kernel_rfl) G fun _ _ nb=>?_)
  exact aC G nb.ext ⟨⟨_,rfl,by rw [←nb.at_];exact ll.size,nb.bk⟩,_,rfl,Nat.le_of_eq nb.at_⟩
 ·intro qj nx
  have o:UpS (LS n gl gs gr RA ra) w qj:=(UpS.refl (LS n gl gs gr RA ra) w).ext nx
  refine a8 (dM G (z:= .agg #[F0,S0]) (vs:= [F0,S0]) (fun _=>by kernel_rfl) G fun _ _ nb=>?_)
  exact aC G nb.ext ⟨⟨_,rfl,by rw [←nb.at_];exact nx.size,nb.bk⟩,_,rfl,Nat.le_of_eq nb.at_⟩
 ·intro xb iw
  have o:UpS (LS n gl gs gr RA ra) w xb:=(UpS.refl (LS n gl gs gr RA ra) w).ext iw
  refine dk G G (dk G G (dk G G (dk G G (dk G G (dk G G (dk G G (dk G G (dk G G (dk G G (dk G G (dk G G (dk G G (dk G G ?_)))))))))))))
  refine dk G G (dk G G (dk G G (dk G G (dk G G (dk G G (aT G G fun _ _ pg _ ng=>?_))))))
  obtain⟨_,_,_,rfl,⟨ml,ob,kz,od,rfl,mg⟩,⟨oi,mj,nh,on,rfl,nm⟩,rfl⟩:=pg
  have mg:=mg.ext ng
  have nm:=nm.ext ng
  refine aT G G fun _ _ wq _ om=>?_
  obtain⟨_,_,_,rfl,⟨lh,mx,kv,mc,rfl,oh⟩,⟨kx,lj,ky,ma,rfl,kw⟩,rfl⟩:=wq
  have oh:=oh.ext om
  have kw:=kw.ext om
  refine aT G G fun _ _ xm _ uv=>?_
  obtain⟨fb,ey,ew,fa,rfl,ij⟩:=xm
  have ij:=ij.ext uv
  refine aT G G fun _ _ vt _ xp=>?_
  obtain⟨cz,dd,co,cu,rfl,fh⟩:=vt
  have fh:=fh.ext xp
  refine dk G G (aT G G fun _ _ py _ ri=>?_)
  obtain⟨ik,rfl,ez,aw⟩:=py
  have aw:=aw.ext ri
  have ez:w.heap.size≤ik:=a7 (UpS.refl (LS n gl gs gr RA ra) w).size ez
  refine aT G G fun _ _ tx _ ub=>?_
  obtain⟨fo,rfl,ag,gt⟩:=tx
  have gt:=gt.ext ub
  have ag:w.heap.size≤fo:=a7 (UpS.refl (LS n gl gs gr RA ra) w).size ag
  refine a8 ?_
  intro iy
  have zx:fo≠ik:=fun e=>iy 26 (by decide) 25 (by decide) (by decide) _ _ G G _ _ G G _ (bE G) (by rw [e];exact bE G)
  clear iy
  refine fC G G G aG G aw (bq G) G (a4 fb ey ew fa) G fun xg ov fd _=>?_
  have uw:UpS (LS n gl gs gr RA ra) w xg:=o.upd fd ez
  have eh:=(gt.vN fd)
  refine fC G G G aG G eh (bq G) G (a4 cz dd co cu) G fun rf ft ep _=>?_
  have sc:UpS (LS n gl gs gr RA ra) w rf:=uw.upd ep ag
  refine mv 1 G (aS (dA (aM (sr (mv 3 G (lo aG (ov.vN ep) (a4 fb ey ew fa) G G G ?_))))))
  have Ad:ln (-((Z q j)/(Z k j)))≤68719476736:=(by rw [gL];exact (mH hS.pos (a7 (hS.qS _ hS.jc) kk)))
  refine bR G G (vs:= [O fb ey ew fa]) (by kernel_rfl) (by decide) (oW sc.size ((ij.updT aw fd).updT eh ep).zi (ij.le (a7 (mH hS.pos (a7 (hS.qS _ hS.jc) kk)) (by decide)))) ?_
  rintro _ mf ⟨_,rfl,wm,da⟩
  refine bL ?_
  have ut:UpS (LS n gl gs gr RA ra) w mf:=sc.ext da
  obtain⟨jd,jo,ji,jj,rfl,qp⟩:=wm
  have zt:ln (-((Z q j)/(Z k j)))≤68719476736:=by rw [gL];exact mH hS.pos (a7 (hS.qS _ hS.jc) kk)
  refine bR G G (vs:= [a9 gl 0,AI q,AI k,O jd jo ji jj]) (by kernel_rfl) (by decide) (show aR aJ _ _ _ (fun e w'=>e= .returned (.tuple #[])∧Ldr lb n cc gl gs gr RA rcap ra rc w' (cH k q j Z)∧UpS (LS n gl gs gr RA ra) mf w') from E6 ((((ee.ext iw).updT aw fd (fun q=>absurd (ar _ q) (by have:=ez;omega))).updT eh ep (fun q=>absurd (ar _ q) (by have:=ag;omega))).ext da).ldr (a7 hlb ut.size) hcc hq2 hk2 (fun e=>hS.ne e.symm) qp zt (fun b hb=>a7 (hS.ad hb) (by omega))) ?_
  rintro _ ta ⟨rfl,ow,cf⟩
  refine bL ?_
  have jk:=((((ee.ext iw).updT aw fd (fun q=>absurd (ar _ q) (by have:=ez;omega))).updT eh ep (fun q=>absurd (ar _ q) (by have:=ag;omega))).ext da).ldr.no64
  have rq:UpS (LS n gl gs gr RA ra) w ta:=ut.trans cf
  obtain⟨az,_,H⟩:=(ow).op
  refine aE (aH (aH ?_))
  by_cases kj:(Z q j)%(Z k j)=0
  ·refine aL (lo aG ((ft.ext da).upS cf (fun q=>absurd (ar _ q) (by have:=ag;omega))) (a4 cz dd co cu) G G G (bR G G (vs:= [O cz dd co cu]) (by kernel_rfl) (by decide) (f8 ((((fh.updT aw fd).updT eh ep).ext da).upS cf jk).zi (fh.le (a7 (xJ hS.pos (a7 (hS.kB _ hS.jc) cn)) (by decide)))) ?_))
   rintro _ uj ⟨_,rfl,tj,oo⟩
   refine bL ?_
   have io:UpS (LS n gl gs gr RA ra) w uj:=rq.ext oo
   obtain rfl:=tj
   refine aN G G G true (pZ kj) (aE (bJ G (bG (dZ (bF [] G Ht ?_)))))
   exact⟨rfl,(H.ext oo).ldr.cong (fun a b _ _=>by rw [D1 kj]),io⟩
  ·have vh:(Int.gcd ((cH k q j Z) k j) ((cH k q j Z) q j):Int)≠0:=by have h9:=hS.pos;have h8:=Int.gcd_pos_of_ne_zero_left ((cH k q j Z) q j) (show (cH k q j Z) k j≠0 by rw [x9 hS.ne];omega);omega
   refine aL (lo aG ((ft.ext da).upS cf (fun q=>absurd (ar _ q) (by have:=ag;omega))) (a4 cz dd co cu) G G G (bR G G (vs:= [O cz dd co cu]) (by kernel_rfl) (by decide) (f8 ((((fh.updT aw fd).updT eh ep).ext da).upS cf jk).zi (fh.le (a7 (xJ hS.pos (a7 (hS.kB _ hS.jc) cn)) (by decide)))) ?_))
   rintro _ qy ⟨_,rfl,tn,ba⟩
   refine bL ?_
   have io:UpS (LS n gl gs gr RA ra) w qy:=rq.ext ba
   obtain rfl:=tn
   refine aN G G G false (qA kj) (aE (aY G (bA (aM (aH (bH [(0,a9 gl 0),(1,AI k),(2,AI q),(3,AI j),(21,a9 gl 0),(22,a9 gl 0),(23,a9 gl 0),(24,By RA n rcap),(25,AI q),(26,.pointer (some ke)),(27,By (ra (em.getD q 0)) cc (rc (em.getD q 0))),(28,AI j),(29,.pointer (some ju)),(30,O jy kd ki kc),(31,a9 gl 0),(32,a9 gl 0),(33,a9 gl 0),(34,By RA n rcap),(35,AI k),(36,.pointer (some kb)),(37,By (ra (em.getD k 0)) cc (rc (em.getD k 0))),(38,AI j),(39,.pointer (some kp)),(40,O jv jx jp jz),(41,.tuple #[O ml ob kz od,O oi mj nh on,I0]),(20,.tuple #[O lh mx kv mc,O kx lj ky ma,I0]),(42,O fb ey ew fa),(43,O cz dd co cu),(44,AI 0),(8,a9 ik 0),(9,a9 fo 0),(10,AI 0),(45,a9 gl 0),(46,AI q),(47,AI k),(48,O fb ey ew fa),(49,O jd jo ji jj),(50,.tuple #[]),(51,O cz dd co cu),(52,AI (bU ((Z q j)%(Z k j)) 0)),(53,Hs)] ⟨rfl,rfl,rfl,rfl,rfl,rfl,rfl,rfl,rfl,rfl,rfl,rfl,rfl,rfl,rfl,rfl,rfl,rfl,rfl,rfl,rfl,rfl,rfl,rfl,rfl,rfl,rfl,rfl,rfl,rfl,rfl,rfl,rfl,rfl,rfl,rfl,rfl,rfl,rfl,rfl,rfl,Ht⟩ ?_))))))
   obtain⟨gj,kg,kq⟩:=((H.ext ba).ho).rowAt (i:=k) (by omega)
   obtain⟨ge,ce,bz,bo,bj,jr,ka,_,dy⟩:=((H.ext ba).hc).at (H.per.lt k (by omega)) (show j<cc by omega)
   have dy:=dy.cast (H.ent k j (by omega) (by omega)).symm
   obtain⟨ie,jq,ko⟩:=((H.ext ba).ho).rowAt (i:=q) (by omega)
   obtain⟨ib,cd,bu,bi,bv,jt,kt,_,eg⟩:=((H.ext ba).hc).at (H.per.lt q (by omega)) (show j<cc by omega)
   have eg:=eg.cast (H.ent q j (by omega) (by omega)).symm
   refine ES cF 41 [F0,S0] (a4 ce bz bo bj) (a4 cd bu bi bv) 20 22 9 21 23 19 [a9 gl 0,a9 gl 0,a9 gl 0,By RA n rcap,AI k,.pointer (some gj),By (ra (az.getD k 0)) cc (rc (az.getD k 0)),AI j,.pointer (some ge),O ce bz bo bj,a9 gl 0,a9 gl 0,a9 gl 0,By RA n rcap,AI q,.pointer (some ie),By (ra (az.getD q 0)) cc (rc (az.getD q 0)),AI j,.pointer (some ib),O cd bu bi bv,undef,undef,undef,undef] [0,1,2,3,4,5,6,7,8,9,10,11,12,13,14,15,16,17,18,19] [[],[0],[1],[2],[],[3,4],[5],[],[6,7],[8],[],[10],[11],[12],[],[13,14],[15],[],[16,17],[18],[],[],[],[]] [[],[0],[0,1],[0,1,2],[],[0,1,2,3,4],[0,1,2,3,4,5],[],[0,1,2,3,4,5,6,7],[0,1,2,3,4,5,6,7,8],[],[10],[10,11],[10,11,12],[],[10,11,12,13,14],[10,11,12,13,14,15],[],[10,11,12,13,14,15,16,17],[10,11,12,13,14,15,16,17,18],[],[],[0,1,2,3,4,5,6,7,8,9,20,21],[0,1,2,3,4,5,6,7,8,9,10,11,12,13,14,15,16,17,18,19,20,21,22]] [(0,0),(0,1),(0,2),(1,0),(1,1),(1,2),(2,0),(2,1),(2,2),(3,0),(3,1),(3,2),(4,0),(4,1),(4,2),(5,0),(5,1),(5,2),(6,0),(6,1),(6,2),(7,0),(7,1),(7,2),(8,0),(8,1),(8,2),(9,0),(9,1),(9,2),(10,0),(10,1),(10,2),(11,0),(11,1),(11,2),(12,0),(12,1),(12,2),(13,0),(13,1),(13,2),(14,0),(14,1),(14,2),(15,0),(15,1),(15,2),(16,0),(16,1),(16,2),(17,0),(17,1),(17,2),(18,0),(18,1),(18,2),(19,0),(19,1),(19,2),(20,0),(20,1),(20,2),(21,0),(21,1),(21,2),(22,0),(22,1),(22,2),(23,0),(23,1),(23,2)] G G (tJ G (z:= .agg #[F0,S0]) (fun _=>by kernel_rfl) G) (tJ G (z:= .agg #[F0,S0]) (fun _=>by kernel_rfl) G) (tT G G G G (fun _ _=>rfl) (fun _ _=>rfl) aG G G G) (tT G G G G (fun _ _=>rfl) (fun _ _=>rfl) aG G G G) ?_ ?_
   ·refine eE G G G (fun _ _=>(dJ G)) (eE G G G (fun _ _=>(eH G)) (eE G G G (fun _ _=>(eH G)) (eE G G G (fun _ tg=>(cN G (aQ cG (H.ext (ba.t tg)).bl G))) (eE G G G (fun _ _=>(dJ G)) (eE G G G (fun _ _=>(fH G G d9 cV k G gj kg)) (eE G G G (fun _ ru=>(cN G (cP cD (ru.cell kq)))) (eE G G G (fun _ _=>(dJ G)) (eE G G G (fun _ _=>(fH G G bM aG.size j G ge jr)) (eE G G G (fun _ tw=>(cN G (ka _ tw _ _ aG))) (eE G G G (fun _ _=>(dJ G)) (eE G G G (fun _ _=>(eH G)) (eE G G G (fun _ _=>(eH G)) (eE G G G (fun _ qw=>(cN G (aQ cG (H.ext (ba.t qw)).bl G))) ?_)))))))))))))
    refine eE G G G (fun _ _=>(dJ G)) (eE G G G (fun _ _=>(fH G G d9 cV q G ie jq)) (eE G G G (fun _ vr=>(cN G (cP cD (vr.cell ko)))) (eE G G G (fun _ _=>(dJ G)) (eE G G G (fun _ _=>(fH G G bM aG.size j G ib jt)) (eE G G G (fun _ tp=>(cN G (kt _ tp _ _ aG))) ?_)))))
    exact trivial
   ·intro im ii ux fe _ gy gc gx gg
    have Ae:fo<im:=cJ (((ft.ext da).upS cf (fun q=>absurd (ar _ q) (by have:=ag;omega))).ext ba).lt gy
    have gy:w.heap.size≤im:=a7 io.size gy
    have zz:fo<ii:=cJ (((ft.ext da).upS cf (fun q=>absurd (ar _ q) (by have:=ag;omega))).ext ba).lt gc
    have gc:w.heap.size≤ii:=a7 io.size gc
    have tr:UpS (LS n gl gs gr RA ra) w ux:=io.ext fe
    refine kA [(0,a9 gl 0),(1,AI k),(2,AI q),(3,AI j),(21,a9 gl 0),(22,a9 gl 0),(23,a9 gl 0),(24,By RA n rcap),(25,AI q),(26,.pointer (some ke)),(27,By (ra (em.getD q 0)) cc (rc (em.getD q 0))),(28,AI j),(29,.pointer (some ju)),(30,O jy kd ki kc),(31,a9 gl 0),(32,a9 gl 0),(33,a9 gl 0),(34,By RA n rcap),(35,AI k),(36,.pointer (some kb)),(37,By (ra (em.getD k 0)) cc (rc (em.getD k 0))),(38,AI j),(39,.pointer (some kp)),(40,O jv jx jp jz),(41,.tuple #[O ml ob kz od,O oi mj nh on,I0]),(20,.tuple #[O lh mx kv mc,O kx lj ky ma,I0]),(42,O fb ey ew fa),(43,O cz dd co cu),(44,AI 0),(8,a9 ik 0),(9,a9 fo 0),(10,AI 0),(45,a9 gl 0),(46,AI q),(47,AI k),(48,O fb ey ew fa),(49,O jd jo ji jj),(50,.tuple #[]),(51,O cz dd co cu),(52,AI (bU ((Z q j)%(Z k j)) 0)),(53,Hs),(54,a9 gl 0),(55,a9 gl 0),(56,a9 gl 0),(57,By RA n rcap),(58,AI k),(59,.pointer (some gj)),(60,By (ra (az.getD k 0)) cc (rc (az.getD k 0))),(61,AI j),(62,.pointer (some ge)),(63,O ce bz bo bj),(64,a9 gl 0),(65,a9 gl 0),(66,a9 gl 0),(67,By RA n rcap),(68,AI q),(69,.pointer (some ie)),(70,By (ra (az.getD q 0)) cc (rc (az.getD q 0))),(71,AI j),(72,.pointer (some ib)),(73,O cd bu bi bv),(11,a9 im 0),(12,a9 ii 0)] ⟨rfl,rfl,rfl,rfl,rfl,rfl,rfl,rfl,rfl,rfl,rfl,rfl,rfl,rfl,rfl,rfl,rfl,rfl,rfl,rfl,rfl,rfl,rfl,rfl,rfl,rfl,rfl,rfl,rfl,rfl,rfl,rfl,rfl,rfl,rfl,rfl,rfl,rfl,rfl,rfl,rfl,rfl,rfl,rfl,rfl,rfl,rfl,rfl,rfl,rfl,rfl,rfl,rfl,rfl,rfl,rfl,rfl,rfl,rfl,rfl,rfl,rfl,rfl,Ht⟩ (aM (sr (lo aG gx (a4 ce bz bo bj) G G G (lo aG gg (a4 cd bu bi bv) G G G (bR G G (vs:= [O ce bz bo bj,O cd bu bi bv]) (by kernel_rfl) (by decide) (OO tr.size (dy.ext fe).zi (dy.le (a7 (a7 hS.p (show B≤17179869184 by omega)) (by decide))) (eg.ext fe).zi (eg.le (a7 (a7 hS.v (show B≤17179869184 by omega)) (by decide)))) ?_)))))
    rintro _ qn ⟨_,rfl,vq,cg⟩
    refine bL ?_
    have vz:UpS (LS n gl gs gr RA ra) w qn:=tr.ext cg
    obtain⟨_,_,_,rfl,⟨fq,fj,fr,fg,rfl,ig⟩,⟨dq,dl,dn,cm,rfl,ud⟩,⟨df,du,dc,dm,rfl,te⟩⟩:=vq
    refine mv 1 G (pu (v:= O fq fj fr fg) G (pu (v:= O dq dl dn cm) G (pu (v:= O df du dc dm) G (dM G (z:= .agg #[F0,S0]) (vs:= [F0,S0]) (fun _=>by kernel_rfl) G fun il vg nb=>?_))))
    have jh:=nb.bk
    have ia:w.heap.size≤il:=by rw [←nb.at_];exact vz.size
    have Ai:im<il:=by rw [←nb.at_];exact (gx.ext cg).lt
    have Ah:ii<il:=by rw [←nb.at_];exact (gg.ext cg).lt
    have av:=nb.ext
    clear nb
    have pj:UpS (LS n gl gs gr RA ra) w vg:=vz.ext av
    refine dM G (z:= .agg #[F0,S0]) (vs:= [F0,S0]) (fun _=>by kernel_rfl) G fun jg qk nb=>?_
    have jb:=nb.bk
    have ic:w.heap.size≤jg:=by rw [←nb.at_];exact pj.size
    have zw:il<jg:=by rw [←nb.at_];exact jh.lt
    have ak:=nb.ext
    clear nb
    have nt:UpS (LS n gl gs gr RA ra) w qk:=pj.ext ak
    refine dM G (z:= .agg #[F0,S0]) (vs:= [F0,S0]) (fun _=>by kernel_rfl) G fun jl ue nb=>?_
    have ot:=nb.bk
    have gw:w.heap.size≤jl:=by rw [←nb.at_];exact nt.size
    have An:jg<jl:=by rw [←nb.at_];exact jb.lt
    have aa:=nb.ext
    clear nb
    have qr:UpS (LS n gl gs gr RA ra) w ue:=nt.ext aa
    have ae:=(jh.ext (ak.t aa))
    refine fC G G G aG G ae (bq G) G (a4 fq fj fr fg) G fun wz iq ab _=>?_
    have ui:UpS (LS n gl gs gr RA ra) w wz:=qr.upd ab ia
    have ac:=((jb.ext aa).vN ab)
    refine fC G G G aG G ac (bq G) G (a4 dq dl dn cm) G fun ve pb U _=>?_
    have ti:UpS (LS n gl gs gr RA ra) w ve:=ui.upd U ic
    have ah:=((ot.vN ab).vN U)
    refine fC G G G aG G ah (bq G) G (a4 df du dc dm) G fun qi je J _=>?_
    have og:UpS (LS n gl gs gr RA ra) w qi:=ti.upd J gw
    refine aE (sr (lo aG ((((gx.ext (cg.t (av.t (ak.t aa)))).vN ab).vN U).vN J) (a4 ce bz bo bj) G G G (lo aG ((iq.vN U).vN J) (a4 fq fj fr fg) G G G (bR G G (vs:= [O ce bz bo bj,O fq fj fr fg]) (by kernel_rfl) (by decide) (qM og.size ((((dy.ext (fe.t (cg.t (av.t (ak.t aa))))).updT ae ab).updT ac U).updT ah J).zi (dy.le (a7 (a7 hS.p (show B≤17179869184 by omega)) (by decide))) ((((ig.ext (av.t (ak.t aa))).updT ae ab).updT ac U).updT ah J).zi (ig.le (a7 (a7 (tM _ _) (Nat.max_le.2 ⟨a7 hS.p cn,a7 hS.v cn⟩)) (by decide))) vh (Int.gcd_dvd_left _ _)) ?_))))
    rintro _ xc ⟨_,rfl,sf,aj⟩
    refine bL ?_
    have mh:UpS (LS n gl gs gr RA ra) w xc:=og.ext aj
    obtain⟨_,_,rfl,⟨cx,cj,dw,dh,rfl,vp⟩,rfl⟩:=sf
    refine mv 1 G (pu (v:= O cx cj dw dh) G (pu (v:= AI 0) G (dM G (z:= .agg #[F0,S0]) (vs:= [F0,S0]) (fun _=>by kernel_rfl) G fun ir po nb=>?_)))
    have au:=nb.bk
    have gn:w.heap.size≤ir:=by rw [←nb.at_];exact mh.size
    have Aj:jl<ir:=by rw [←nb.at_];exact (je.ext aj).lt
    have aq:=nb.ext
    clear nb
    have qt:UpS (LS n gl gs gr RA ra) w po:=mh.ext aq
    refine fC G G G aG G au (bq G) G (a4 cx cj dw dh) G fun xw jf ai _=>?_
    have nw:UpS (LS n gl gs gr RA ra) w xw:=qt.upd ai gn
    refine mv 1 G (aE (sr (lo aG ((((((gg.ext (cg.t (av.t (ak.t aa)))).vN ab).vN U).vN J).ext (aj.t aq)).vN ai) (a4 cd bu bi bv) G G G (lo aG ((((iq.vN U).vN J).ext (aj.t aq)).vN ai) (a4 fq fj fr fg) G G G (bR G G (vs:= [O cd bu bi bv,O fq fj fr fg]) (by kernel_rfl) (by decide) (qM nw.size ((((((eg.ext (fe.t (cg.t (av.t (ak.t aa))))).updT ae ab).updT ac U).updT ah J).ext (aj.t aq)).updT au ai).zi (eg.le (a7 (a7 hS.v (show B≤17179869184 by omega)) (by decide))) ((((((ig.ext (av.t (ak.t aa))).updT ae ab).updT ac U).updT ah J).ext (aj.t aq)).updT au ai).zi (ig.le (a7 (a7 (tM _ _) (Nat.max_le.2 ⟨a7 hS.p cn,a7 hS.v cn⟩)) (by decide))) vh (Int.gcd_dvd_right _ _)) ?_)))))
    rintro _ vb ⟨_,rfl,vm,bc⟩
    refine bL ?_
    have me:UpS (LS n gl gs gr RA ra) w vb:=nw.ext bc
    obtain⟨_,_,rfl,⟨fv,fz,fx,fy,rfl,nu⟩,rfl⟩:=vm
    refine mv 1 G (pu (v:= O fv fz fx fy) G (pu (v:= AI 0) G (dM G (z:= .agg #[F0,S0]) (vs:= [F0,S0]) (fun _=>by kernel_rfl) G fun lu rp nb=>?_)))
    have bw:=nb.bk
    have gk:w.heap.size≤lu:=by rw [←nb.at_];exact me.size
    have Ag:ir<lu:=by rw [←nb.at_];exact (jf.ext bc).lt
    have bh:=nb.ext
    clear nb
    have xf:UpS (LS n gl gs gr RA ra) w rp:=me.ext bh
    refine fC G G G aG G bw (bq G) G (a4 fv fz fx fy) G fun ss oz bg _=>?_
    have ao:UpS (LS n gl gs gr RA ra) w ss:=xf.upd bg gk
    refine mv 1 G (aE ?_)
    have Ac:ln (-(((cH k q j Z) q j).tdiv (Int.gcd ((cH k q j Z) k j) ((cH k q j Z) q j):Int)))≤17179869184:=(by rw [gL];exact (a7 (gK _ _) (a7 hS.v cn)))
    refine dP cF 11 [] [Is (a9 gl 0),Is (AI k),Is (AI q),Is (O dq dl dn cm),Is (O df du dc dm),Is (a5 dq dl dn cm df du dc dm),Is (O fv fz fx fy),ZR w.heap.size (-(((cH k q j Z) q j).tdiv (Int.gcd ((cH k q j Z) k j) ((cH k q j Z) q j):Int))),Is (O cx cj dw dh),fun v' w'=>∃s0 A0 n0 c0,v'= a5 s0 A0 n0 c0 cx cj dw dh∧Zr w' w.heap.size s0 A0 n0 c0 (-(((cH k q j Z) q j).tdiv (Int.gcd ((cH k q j Z) k j) ((cH k q j Z) q j):Int))),fun v' w'=>∃s2 A2 n2 c2,v'= .agg #[.bool dq,By dl dn cm,.bool df,By du dc dm,.bool s2,By A2 n2 c2,.bool cx,By cj dw dh]∧Zr w' w.heap.size s2 A2 n2 c2 (-(((cH k q j Z) q j).tdiv (Int.gcd ((cH k q j Z) k j) ((cH k q j Z) q j):Int)))] [[],[],[],[],[],[3,4],[],[6],[],[7,8],[5,9]] [[],[],[],[],[],[3,4],[],[6],[],[6,7,8],[3,4,5,6,7,8,9],[0,1,2,3,4,5,6,7,8,9,10]] rfl
     (aD G G (aA G G ?_) (aD G G (aA G G ?_) (aD G G (aA G G ?_) (aD G G (aA G G ?_) (aD G G (aA G G ?_) (aD G G (aA G G ?_) (aD G G (aA G G ?_) (aD G G (aA G G ?_) (aD G G (aA G G ?_) (aD G G (aA G G ?_) (aD G G (aA G G ?_) dF))))))))))) ?_
    ·intro xx wk
     have I:UpS (LS n gl gs gr RA ra) w xx:=ao.ext wk
     refine a8 (mv 1 G ?_)
     exact aC G aB rfl
    ·intro ug uz
     have I:UpS (LS n gl gs gr RA ra) w ug:=ao.ext uz
     refine a8 (mv 1 G ?_)
     exact aC G aB rfl
    ·intro uk qv
     have I:UpS (LS n gl gs gr RA ra) w uk:=ao.ext qv
     refine a8 (mv 1 G ?_)
     exact aC G aB rfl
    ·intro xa oc
     have I:UpS (LS n gl gs gr RA ra) w xa:=ao.ext oc
     refine a8 (lo aG ((((((pb.vN J).ext (aj.t aq)).vN ai).ext (bc.t bh)).vN bg).ext oc) (a4 dq dl dn cm) G G G ?_)
     exact aC G aB rfl
    ·intro su nj
     have I:UpS (LS n gl gs gr RA ra) w su:=ao.ext nj
     refine a8 (lo aG (((((je.ext (aj.t aq)).vN ai).ext (bc.t bh)).vN bg).ext nj) (a4 df du dc dm) G G G ?_)
     exact aC G aB rfl
    ·intro tk xr
     have I:UpS (LS n gl gs gr RA ra) w tk:=ao.ext xr
     refine dk G G (dk G G (a8 (pu (v:= a5 dq dl dn cm df du dc dm) G ?_)))
     exact aC G aB rfl
    ·intro pt lf
     have I:UpS (LS n gl gs gr RA ra) w pt:=ao.ext lf
     refine a8 (lo aG (oz.ext lf) (a4 fv fz fx fy) G G G ?_)
     exact aC G aB rfl
    ·intro qo my
     have I:UpS (LS n gl gs gr RA ra) w qo:=ao.ext my
     refine dk G G (a8 ?_)
     have zy:ln (-(((cH k q j Z) q j).tdiv (Int.gcd ((cH k q j Z) k j) ((cH k q j Z) q j):Int)))≤17179869184:=(by rw [gL];exact (a7 (gK _ _) (a7 hS.v cn)))
     refine bR G G (vs:= [O fv fz fx fy]) (by kernel_rfl) (by decide) (oW I.size (((nu.ext bh).updT bw bg).ext my).zi (nu.le (a7 (a7 (gK _ _) (a7 hS.v cn)) (by decide)))) ?_
     rintro _ vj ⟨_,rfl,xu,lw⟩
     refine bL ?_
     have nf:UpS (LS n gl gs gr RA ra) w vj:=I.ext lw
     obtain⟨_,_,_,_,rfl,rt⟩:=xu
     exact aC G lw ⟨_,_,_,_,rfl,rt⟩
    ·intro tv oe
     have I:UpS (LS n gl gs gr RA ra) w tv:=ao.ext oe
     refine a8 (lo aG (((jf.ext (bc.t bh)).vN bg).ext oe) (a4 cx cj dw dh) G G G ?_)
     exact aC G aB rfl
    ·intro px rj
     have I:UpS (LS n gl gs gr RA ra) w px:=ao.ext rj
     refine aT G G fun _ _ qd _ si=>?_
     obtain⟨yf,rz,qm,qu,rfl,iv⟩:=qd
     have iv:=iv.ext si
     refine dk G G (a8 (pu (v:= a5 yf rz qm qu cx cj dw dh) G ?_))
     exact aC G aB ⟨_,_,_,_,rfl,iv⟩
    ·intro ry rm
     have I:UpS (LS n gl gs gr RA ra) w ry:=ao.ext rm
     refine dk G G (aT G G fun _ _ ph _ qe=>?_)
     obtain⟨xe,uh,ul,yb,rfl,ix⟩:=ph
     have ix:=ix.ext qe
     refine a8 (pu (v:= .agg #[.bool dq,By dl dn cm,.bool df,By du dc dm,.bool xe,By uh ul yb,.bool cx,By cj dw dh]) G ?_)
     exact aC G aB ⟨_,_,_,_,rfl,ix⟩
    ·intro re fk
     have I:UpS (LS n gl gs gr RA ra) w re:=ao.ext fk
     refine dk G G (dk G G (dk G G (dk G G (dk G G (dk G G (dk G G (aT G G fun _ _ vd _ we=>?_)))))))
     obtain⟨_,_,_,_,rfl,mr⟩:=vd
     have mr:=mr.ext we
     refine dk G G (aT G G fun _ _ uq _ um=>?_)
     obtain⟨_,_,_,_,rfl,mw⟩:=uq
     have mw:=mw.ext um
     refine aT G G fun _ _ xt _ vo=>?_
     obtain⟨xl,pp,qh,wh,rfl,jn⟩:=xt
     have jn:=jn.ext vo
     refine a8 (bR G G (vs:= [a9 gl 0,AI k,AI q,.agg #[.bool dq,By dl dn cm,.bool df,By du dc dm,.bool xl,By pp qh wh,.bool cx,By cj dw dh]]) (by kernel_rfl) (by decide) (O5 (((((((((H.ext (ba.t (fe.t (cg.t (av.t (ak.t aa)))))).updT ae ab (fun q=>absurd (ar _ q) (by have:=ia;omega))).updT ac U (fun q=>absurd (ar _ q) (by have:=ic;omega))).updT ah J (fun q=>absurd (ar _ q) (by have:=gw;omega))).ext (aj.t aq)).updT au ai (fun q=>absurd (ar _ q) (by have:=gn;omega))).ext (bc.t bh)).updT bw bg (fun q=>absurd (ar _ q) (by have:=gk;omega))).ext fk).ldr (a7 hlb I.size) hcc hk2 hq2 hS.ne (((((((((ud.ext (av.t (ak.t aa))).updT ae ab).updT ac U).updT ah J).ext (aj.t aq)).updT au ai).ext (bc.t bh)).updT bw bg).ext fk) (a7 hS.x1 jw) (((((((((te.ext (av.t (ak.t aa))).updT ae ab).updT ac U).updT ah J).ext (aj.t aq)).updT au ai).ext (bc.t bh)).updT bw bg).ext fk) (a7 hS.x2 jw) jn (a7 hS.x3 jw) (((((vp.ext aq).updT au ai).ext (bc.t bh)).updT bw bg).ext fk) (a7 hS.x4 jw) (fun b hb=>a7 (hS.lin1 hS.x2 hb) hK) (fun b hb=>a7 (hS.lin1 hS.x4 hb) hK) (fun b hb=>a7 (hS.lin hS.x1 hS.x2 hb) hK) (fun b hb=>a7 (hS.lin hS.x3 hS.x4 hb) hK)) ?_)
     rintro _ uc ⟨rfl,ou,ox⟩
     refine bL ?_
     have yp:=(((((((((H.ext (ba.t (fe.t (cg.t (av.t (ak.t aa)))))).updT ae ab (fun q=>absurd (ar _ q) (by have:=ia;omega))).updT ac U (fun q=>absurd (ar _ q) (by have:=ic;omega))).updT ah J (fun q=>absurd (ar _ q) (by have:=gw;omega))).ext (aj.t aq)).updT au ai (fun q=>absurd (ar _ q) (by have:=gn;omega))).ext (bc.t bh)).updT bw bg (fun q=>absurd (ar _ q) (by have:=gk;omega))).ext fk).ldr.no64
     have nf:UpS (LS n gl gs gr RA ra) w uc:=I.trans ox
     obtain⟨_,_,oy⟩:=(ou).op
     refine aS (dA (iW [] G Ht ?_))
     exact⟨rfl,oy.ldr.cong (fun a b _ _=>by rw [D2 hS.ne kj]),nf⟩
section
variable {c k q j S B:Nat}{Z:Mx}
theorem KS {E:Int→Int→Int×Int}(h1:r≠k)(h2:r≠q):fI E k q j Z r=Z r:=by
 unfold fI
 split
 ·exact j0 _ _ _ h2
 ·rw [tD _ _ _ _ _ h1 h2];exact j0 _ _ _ h2
theorem Szm.out (h:Szm c k q j S B Z)(hb:b<c):ln (fI dO k q j Z k b)≤S+2*B+4∧ln (fI dO k q j Z q b)≤S+2*B+4:=by
 by_cases o:Z q j%Z k j=0
 ·rw [D1 o]
  have H:=h.xk hb
  have I:=h.xq hb
  exact⟨by omega,by omega⟩
 ·rw [D2 h.ne o,oP,oO h.ne]
  exact⟨h.lin h.x1 h.x2 hb,h.lin h.x3 h.x4 hb⟩
end
structure PL (c d B:Nat)(Z:Mx)(u a:Nat)(Y:Mx):Prop where
 pi:PI c d Z a Y
 eq:∃f,c<f+ldr c (Y d)∧eL dO c d (c+1) 0 Z=eL dO c d f a Y
 lo:u≤ldr c (Y d)
 sz:∀i b,i≤d→b<c→ln (Y i b)≤B+u*(2*B+4)
section
variable {c d B u a a1:Nat}{Z Y:Mx}
theorem PL.start (hz:Ech c d Z)(h:∀i b,i≤d→b<c→ln (Z i b)≤B):PL c d B Z 0 0 Z:=
 ⟨PI.start hz,⟨c+1,by omega,rfl⟩,bX _,fun i b hi hb=>a7 (h i b hi hb) (by omega)⟩
theorem PL.none (h:PL c d B Z u a Y)(e:ldr c (Y d)=c):eL dO c d (c+1) 0 Z=(false,a,Y):=by
 obtain⟨f,hf,o⟩:=h.eq
 rw [o]
 match f,hf with
 | 0,hf=>omega
 | f+1,_=>rw [eL,if_pos e]
theorem FN (h1:a≤a1)(h2:a1≤d)(h3:∀r,a≤r→r<a1→ldr c (Y r)<j)(h4:a1<d→j≤ldr c (Y a1)):adv c Y j (d-a) a=a1:=by
 obtain⟨o,_,H,h⟩:=zB c Y j (d-a) a
 generalize adv c Y j (d-a) a=a' at*
 rcases Nat.lt_trichotomy a' a1 with e | e | e
 ·have:=h (by omega);have:=h3 a' o e;omega
 ·exact e
 ·have:=H a1 h1 e;have:=h4 (by omega);omega
theorem PL.brk (h:PL c d B Z u a Y)(hl:ldr c (Y d)<c)(ha:adv c Y (ldr c (Y d)) (d-a) a=a1)(hb:a1=d∨ldr c (Y a1)≠ldr c (Y d)):eL dO c d (c+1) 0 Z=(true,a1,Y):=by
 obtain⟨f,hf,o⟩:=h.eq
 rw [o]
 match f,hf with
 | 0,hf=>omega
 | f+1,_=>rw [eL,if_neg (by omega),ha,if_pos hb]
theorem PL.szm (h:PL c d B Z u a Y)(hZ:∀i b,i≤d→b<c→ln (Z i b)≤B)(hl:ldr c (Y d)<c)(ha:adv c Y (ldr c (Y d)) (d-a) a=a1)(h1:a1<d)(h2:ldr c (Y a1)=ldr c (Y d)):Szm c a1 d (ldr c (Y d)) (B+u*(2*B+4)) B Y:=by
 obtain⟨_,_,_,o⟩:=h.pi.advs
 rw [ha] at o
 obtain⟨_,H⟩:=o h1
 refine⟨by omega,hl,by rw [←h2];exact h.pi.pos a1 h1,fun b hb=>by rw [H a1 (aI _) h1];exact hZ a1 b (by omega) hb,fun b hb=>h.sz d b (aI _) hb⟩
theorem PL.met (h:PL c d B Z u a Y)(hZ:∀i b,i≤d→b<c→ln (Z i b)≤B)(hl:ldr c (Y d)<c)(ha:adv c Y (ldr c (Y d)) (d-a) a=a1)(h1:a1<d)(h2:ldr c (Y a1)=ldr c (Y d)):PL c d B Z (ldr c (Y d)+1) a1 (fI dO a1 d (ldr c (Y d)) Y):=by
 have I:=h.szm hZ hl ha h1 h2
 obtain⟨k1,k2⟩:=h.pi.step mT ha.symm G hl h1 h2
 have J:ldr c (Y d)+1≤ldr c (fI dO a1 d (ldr c (Y d)) Y d):=xM (fun b hb _=>k2 b (by omega))
 obtain⟨f,hf,U⟩:=h.eq
 have aa:=h.lo
 refine⟨k1,?_,J,fun i b hi hb=>?_⟩
 ·match f,hf with
  | 0,hf=>omega
  | f+1,hf=>
   refine⟨f,by omega,?_⟩
   rw [U,eL,if_neg (by omega),ha,if_neg (fun q=>by rcases q with q | q <;> omega)]
 ·have H:=dX (2*B+4) (show u+1≤ldr c (Y d)+1 by omega)
  rw [gO] at H
  obtain⟨_,_⟩:=I.out hb
  by_cases e:i=a1
  ·rw [e];omega
  ·by_cases o:i=d
   ·rw [o];omega
   ·rw [KS e o];have:=h.sz i b hi hb;omega
theorem PL.ent (h:PL c d B Z u a Y)(hc:c≤64)(hi:i≤d)(hb:b<c):ln (Y i b)≤B+64*(2*B+4):=by
 have o:=h.sz i b hi hb
 have H:=h.lo
 have J:=oV c (Y d)
 have I:=dX (2*B+4) (show u≤64 by omega)
 omega
theorem wP (h:eL dO c d (c+1) 0 Z=(false,a,Y)):iR dO c d Z=false∧eI dO c d Z=gE c d Y:=by
 unfold iR eI;rw [h];exact⟨rfl,rfl⟩
theorem lE (h:eL dO c d (c+1) 0 Z=(true,a,Y)):iR dO c d Z=true∧eI dO c d Z=gE c (d+1) (dN d a (dD c d Y)):=by
 unfold iR eI;rw [h];exact⟨rfl,rfl⟩
noncomputable def pN (c d:Nat)(Z:Mx):Nat:=if iR dO c d Z=true then d+1 else d
theorem PL.sztN (h:PL c d B Z u a Y)(hc:c≤64)(hz:Ech c d Z)(hF:∀i b,i<pN c d Z→b<c→ln (eI dO c d Z i b)≤B)(hp:eL dO c d (c+1) 0 Z=(false,a,Y)):Szt c d (B+64*(2*B+4)) B Y:=by
 obtain⟨I,J⟩:=wP hp
 unfold pN at hF
 rw [I,J,if_neg (by decide)] at hF
 refine⟨⟨fun i hi=>by rw [h.pi.ld i hi];exact hz.lt i hi,fun i k o H=>by rw [h.pi.ld i (by omega),h.pi.ld k H];exact hz.up i k o H,h.pi.pos⟩,fun i b hi hb=>h.ent hc (by omega) hb,fun i b hi hb=>hF i b hi hb⟩
theorem PL.sztY (h:PL c d B Z u a Y)(hc:c≤64)(hz:Ech c d Z)(hF:∀i b,i<pN c d Z→b<c→ln (eI dO c d Z i b)≤B)(hp:eL dO c d (c+1) 0 Z=(true,a1,Y)):Szt c (d+1) (B+64*(2*B+4)) B (dN d a1 (dD c d Y)):=by
 obtain⟨J,U⟩:=lE hp
 unfold pN at hF
 rw [J,U,if_pos rfl] at hF
 have o:=wO (c:=c) (n:=d) mT hz
 rw [hp] at o
 refine⟨(CA o hz G).1,fun i b hi hb=>?_,fun i b hi hb=>hF i b hi hb⟩
 have H:=o.an
 simp only at H
 have I:∀i,i≤d→ln (dD c d Y i b)≤B+64*(2*B+4):=fun i hi=>by
  unfold dD
  split
  ·by_cases e:i=d
   ·rw [e,sO,gL];exact h.ent hc (aI _) hb
   ·rw [B4 _ e];exact h.ent hc hi hb
  ·exact h.ent hc hi hb
 unfold dN
 split
 ·exact I d (aI _)
 ·split
  ·exact I (i-1) (by omega)
  ·exact I i (by omega)
theorem tF (i b:Nat)(hs:s<d:=by omega):dN d (d-(s+1)) Y i b=lB (d-s) (d-s-1) (dN d (d-s) Y) i b:=by
 unfold lB dN
 by_cases h:i=d-s
 ·subst h
  rw [if_neg (by omega),if_pos (by omega),if_pos rfl,if_neg (by omega),if_neg (by omega)]
 ·by_cases H:i=d-s-1
  ·subst H
   rw [if_pos (by omega),if_neg h,if_pos rfl,if_pos rfl]
  ·rw [if_neg (show i≠d-(s+1) by omega),if_neg h,if_neg H,if_neg h]
   by_cases o:d-(s+1)<i∧i≤d
   ·rw [if_pos o,if_pos (by omega)]
   ·rw [if_neg o,if_neg (by omega)]
theorem tE (i b:Nat):dN d d Y i b=Y i b:=by
 unfold dN
 by_cases e:i=d
 ·rw [if_pos e,e]
 ·rw [if_neg e,if_neg (by omega)]
theorem BN (h:Y d (ldr c (Y d))<0):dD c d Y=gD d Y:=if_pos h
theorem BO (h:¬Y d (ldr c (Y d))<0):dD c d Y=Y:=if_neg h
end
section
variable {lb N c gl gs gr:Nat}{RA:Option a6}{rcap:Nat}{ra:Nat→Option a6}{rc:Nat→Nat}{w w':a0}{ps:List Nat}{Y Z:Mx}
theorem LdP.neg (h:LdP lb N c gl gs gr RA rcap ra rc w ps Y Z)(hi:i<N)(hj:j<c){p:a6}(hp:(ra (ps.getD i 0)).map (·.add (j*2))=some p){b:Bool}(hb:decide (Z i j<0)=b):w.cell? (p.add 0)=some (.bool b):=by
 obtain⟨zs,hz,I⟩:=h.rowz hi
 obtain⟨es,h1,_,_,U⟩:=hz
 obtain⟨a,J,o⟩:=h1.rv.get (j*2) (by omega)
 rw [J] at hp;cases hp
 have g0:=pQ es j (by omega)
 rw [List.getD_eq_getElem?_getD,g0] at o
 have H:=(U j hj).2.zr.sgn
 rw [I j hj,hb] at H
 rw [show (es.getD j ZC.zero).s=b from H] at o
 exact o
end
theorem E5 {ra:Nat→Option a6}{rc:Nat→Nat}(hL:Ldr lb n cc gl gs gr RA rcap ra rc w Z)(hlb:lb≤w.heap.size)(hcc:cc≤64)(hn:n≤64)(hd:d<n)(hz:Ech cc d Z)(hZ:∀i b,i≤d→b<cc→ln (Z i b)≤B)(hF:∀i b,i<pN cc d Z→b<cc→ln (eI dO cc d Z i b)≤B)(hB34:B+1≤17179869184)(hK:200*B+400≤68719476736):aR aJ 67 #[a9 gl 0,AI d] w (fun e w'=>e= .returned (.bool (iR dO cc d Z))∧Ldr lb n cc gl gs gr RA rcap ra rc w' (eI dO cc d Z)∧UpS (LS n gl gs gr RA ra) w w'):=by
 refine bQ Tryz.func67 G (n:=109) G (bq G) (args:= [a9 gl 0,AI d]) ?_
 have wq:∀k,LS n gl gs gr RA ra k→k<w.heap.size:=fun k hk=>(hL.lt hk).2
 obtain⟨_,_,nj⟩:=(hL).op
 have vv:=nj.ho.rv.le
 refine bH [(0,a9 gl 0),(1,AI d)] ⟨rfl,rfl,Ht⟩ (sr (mv 1 G (aE (sr (mv 1 G (aE (aH (sr (mv 1 G (aE (bB ?_)))))))))))
 refine d6 (T:=a0×Nat×Int×Nat×Mx) (fun⟨wr,u,lz,a,Y⟩=> [(0,a9 gl 0),(1,AI d),(4,Hs),(5,AI a),(6,AI lz)]) (fun⟨wr,u,lz,a,Y⟩=>wr) (fun⟨wr,u,lz,a,Y⟩=>(UpS (LS n gl gs gr RA ra) w wr)∧(u≤cc)∧(Ldr lb n cc gl gs gr RA rcap ra rc wr Y)∧(lz=(u:Int)-1)∧(PL cc d B Z u a Y)) (fun⟨wr,u,lz,a,Y⟩=>cc-u)
  (⟨w,0,(-1),0,Z⟩:a0×Nat×Int×Nat×Mx) ⟨(UpS.refl (LS n gl gs gr RA ra) w),(by omega),nj.ldr,(by decide),(PL.start hz hZ)⟩ G ⟨rfl,rfl,rfl,rfl,rfl,Ht⟩ ?_
 rintro⟨wr,u,lz,a,Y⟩ ⟨I,_,jz,_,az⟩
 refine d4 [(0,a9 gl 0),(1,AI d),(4,Hs),(5,AI a),(6,AI lz)] wr G ⟨rfl,rfl,rfl,rfl,rfl,Ht⟩ ?_
 obtain⟨aa,_,bg⟩:=(jz).op
 refine bB (sr (mv 1 G (pf gl 0 G (pf gl 0 G (aK G G (aQ cG bg.bl G) (mv 1 G ?_))))))
 obtain⟨ac,du,em⟩:=(bg.ho).rowAt (i:=d) (by omega)
 refine aX G G G d9 cV d G ac du (aK G G (cP cD em) (bR G G (vs:= [By (ra (aa.getD d 0)) cc (rc (aa.getD d 0))]) (by kernel_rfl) (by decide) (kP bg hcc (i:=d)) ?_))
 rintro _ v4 ⟨_,rfl,r6,e5⟩
 refine bL ?_
 have H:UpS (LS n gl gs gr RA ra) w v4:=I.ext e5
 obtain rfl:=r6
 refine mv 1 G (aE (aH (aH ?_)))
 have wg:=az.lo
 have wm:=az.pi.an
 have wk:=oV cc (Y d)
 by_cases vb:ldr cc (Y d)=cc
 ·have ep:=az.none vb
  refine aL (mv 2 G (pf gl 0 G (pf gl 0 G (aK G G (aQ cG (bg.ext e5).bl G) (mv 1 G (aX G G G d9 cV d G ac du (aK G G (cP cD (e5.cell em)) (pu (v:= AI cc) G (aN G G G true (kD (a:=ldr cc (Y d)) (b:=cc) G G) (mv 4 G (pu (v:= BY) G (aE (bJ G ?_)))))))))))))
  refine sr (mv 2 G (bR G G (vs:= [a9 gl 0,AI d]) (by kernel_rfl) (by decide) (qQ (bg.ext e5).ldr (a7 hlb H.size) hcc hn (m:=d) (az.sztN hcc hz hF ep)) ?_))
  rintro _ v7 ⟨rfl,tw,tx⟩
  refine bL ?_
  have vt:=(bg.ext e5).ldr.no64
  have J:UpS (LS n gl gs gr RA ra) w v7:=H.trans tx
  obtain⟨_,_,rt⟩:=(tw).op
  refine aE (sr (mv 1 G (aE (bG (dZ (kQ (qX (kQ (dZ (bF [F0] G ⟨rfl,Ht⟩ ?_))))))))))
  exact⟨by rw [(wP ep).1];rfl,rt.ldr.cong (fun a b _ _=>by rw [(wP ep).2]),J⟩
 ·have ew:ldr cc (Y d)<cc:=by omega
  refine aL (mv 2 G (pf gl 0 G (pf gl 0 G (aK G G (aQ cG (bg.ext e5).bl G) (mv 1 G (aX G G G d9 cV d G ac du (aK G G (cP cD (e5.cell em)) (pu (v:= AI cc) G (aN G G G false (kS (a:=ldr cc (Y d)) (b:=cc) G G) (mv 3 G (aN G G G false (r7 (by omega)) (pu (v:= Hs) G (aS ?_)))))))))))))
  refine aM (aY G (bA (aM (sr (mv 2 G (aE (aH (bB ?_))))))))
  refine d6 (T:=a0×Nat) (fun⟨wa,a1⟩=> [(0,a9 gl 0),(1,AI d),(4,Hs),(5,AI a1),(6,AI ((ldr cc (Y d):Nat):Int)),(7,AI ((ldr cc (Y d):Nat):Int)),(9,a9 gl 0),(10,a9 gl 0),(11,a9 gl 0),(12,By RA n rcap),(13,AI d),(14,.pointer (some ac)),(15,By (ra (aa.getD d 0)) cc (rc (aa.getD d 0))),(16,AI ((ldr cc (Y d):Nat):Int)),(17,AI ((ldr cc (Y d):Nat):Int)),(18,a9 gl 0),(19,a9 gl 0),(20,a9 gl 0),(21,By RA n rcap),(22,AI d),(23,.pointer (some ac)),(24,By (ra (aa.getD d 0)) cc (rc (aa.getD d 0))),(25,AI cc),(26,Hs),(27,Hs),(28,AI ((ldr cc (Y d):Nat):Int)),(29,AI lz),(30,Hs),(31,Hs),(35,AI ((ldr cc (Y d):Nat):Int))]) (fun⟨wa,a1⟩=>wa) (fun⟨wa,a1⟩=>(UpS (LS n gl gs gr RA ra) w wa)∧(a1≤d)∧(Ldr lb n cc gl gs gr RA rcap ra rc wa Y)∧(a≤a1)∧(∀r,a≤r→r<a1→ldr cc (Y r)<ldr cc (Y d))) (fun⟨wa,a1⟩=>d-a1)
   (⟨v4,a⟩:a0×Nat) ⟨H,(by omega),(bg.ext e5).ldr,(aI a),(fun r h1 h2=>by omega)⟩ G ⟨rfl,rfl,rfl,rfl,rfl,rfl,rfl,rfl,rfl,rfl,rfl,rfl,rfl,rfl,rfl,rfl,rfl,rfl,rfl,rfl,rfl,rfl,rfl,rfl,rfl,rfl,rfl,rfl,rfl,rfl,Ht⟩ ?_
  rintro⟨wa,a1⟩ ⟨I,dq,jg,oa,iu⟩
  refine d4 [(0,a9 gl 0),(1,AI d),(4,Hs),(5,AI a1),(6,AI ((ldr cc (Y d):Nat):Int)),(7,AI ((ldr cc (Y d):Nat):Int)),(9,a9 gl 0),(10,a9 gl 0),(11,a9 gl 0),(12,By RA n rcap),(13,AI d),(14,.pointer (some ac)),(15,By (ra (aa.getD d 0)) cc (rc (aa.getD d 0))),(16,AI ((ldr cc (Y d):Nat):Int)),(17,AI ((ldr cc (Y d):Nat):Int)),(18,a9 gl 0),(19,a9 gl 0),(20,a9 gl 0),(21,By RA n rcap),(22,AI d),(23,.pointer (some ac)),(24,By (ra (aa.getD d 0)) cc (rc (aa.getD d 0))),(25,AI cc),(26,Hs),(27,Hs),(28,AI ((ldr cc (Y d):Nat):Int)),(29,AI lz),(30,Hs),(31,Hs),(35,AI ((ldr cc (Y d):Nat):Int))] wa G ⟨rfl,rfl,rfl,rfl,rfl,rfl,rfl,rfl,rfl,rfl,rfl,rfl,rfl,rfl,rfl,rfl,rfl,rfl,rfl,rfl,rfl,rfl,rfl,rfl,rfl,rfl,rfl,rfl,rfl,rfl,Ht⟩ ?_
  obtain⟨h,_,o⟩:=(jg).op
  refine aH (aH ?_)
  by_cases ll:a1<d
  ·by_cases ua:ldr cc (Y a1)<ldr cc (Y d)
   ·refine aL (mv 2 G (aN G G G true (dB (a:=a1) (b:=d) G G) (mv 2 G (pf gl 0 G (pf gl 0 G (aK G G (aQ cG o.bl G) (mv 1 G ?_)))))))
    obtain⟨ks,jy,jk⟩:=(o.ho).rowAt (i:=a1) (by omega)
    refine aX G G G d9 cV a1 G ks jy (aK G G (cP cD jk) (bR G G (vs:= [By (ra (h.getD a1 0)) cc (rc (h.getD a1 0))]) (by kernel_rfl) (by decide) (kP o hcc (i:=a1)) ?_))
    rintro _ od ⟨_,rfl,ul,kw⟩
    refine bL ?_
    have H:UpS (LS n gl gs gr RA ra) w od:=I.ext kw
    obtain rfl:=ul
    refine mv 1 G (aN G G G true (dB (a:=ldr cc (Y a1)) (b:=ldr cc (Y d)) G G) (pu (v:= BY) G (aE (bJ G (bA (aM (bB (aL (mv 1 G (bC G G G ((a1+1:Nat):Int) (bW (a:=a1) (b:=1) G G) (mv 1 G (aS (cC ?_)))))))))))))
    refine cB (⟨od,a1+1⟩:a0×Nat) ⟨H,(by omega),(o.ext kw).ldr,(by omega),(fun r h1 h2=>if h9:r<a1 then iu r h1 h9 else (show r=a1 by omega)▸ua)⟩ (show d-(a1+1)<d-a1 by omega) G ⟨rfl,rfl,rfl,rfl,rfl,rfl,rfl,rfl,rfl,rfl,rfl,rfl,rfl,rfl,rfl,rfl,rfl,rfl,rfl,rfl,rfl,rfl,rfl,rfl,rfl,rfl,rfl,rfl,rfl,rfl,Ht⟩
   ·refine aL (mv 2 G (aN G G G true (dB (a:=a1) (b:=d) G G) (mv 2 G (pf gl 0 G (pf gl 0 G (aK G G (aQ cG o.bl G) (mv 1 G ?_)))))))
    obtain⟨ah,bi,bz⟩:=(o.ho).rowAt (i:=a1) (by omega)
    refine aX G G G d9 cV a1 G ah bi (aK G G (cP cD bz) (bR G G (vs:= [By (ra (h.getD a1 0)) cc (rc (h.getD a1 0))]) (by kernel_rfl) (by decide) (kP o hcc (i:=a1)) ?_))
    rintro _ vp ⟨_,rfl,va,ab⟩
    refine bL ?_
    have H:UpS (LS n gl gs gr RA ra) w vp:=I.ext ab
    obtain rfl:=va
    refine mv 1 G (aN G G G false (dK (a:=ldr cc (Y a1)) (b:=ldr cc (Y d)) G G) (pu (v:= Hs) G (aE (aY G (cM (cK (cT (cL (aM (aH (aH ?_)))))))))))
    have bc:adv cc (Y) (ldr cc (Y d)) (d-a) a=a1:=FN oa dq iu (fun _=>by omega)
    by_cases ji:ldr cc (Y a1)=ldr cc (Y d)
    ·refine aL (mv 2 G (aN G G G false (kS (a:=a1) (b:=d) G G) (mv 2 G (pf gl 0 G (pf gl 0 G (aK G G (aQ cG (o.ext ab).bl G) (mv 1 G (aX G G G d9 cV a1 G ah bi (aK G G (cP cD (ab.cell bz)) (bR G G (vs:= [By (ra (h.getD a1 0)) cc (rc (h.getD a1 0))]) (by kernel_rfl) (by decide) (kP (o.ext ab) hcc (i:=a1)) ?_))))))))))
     rintro _ uu ⟨_,rfl,uh,iz⟩
     refine bL ?_
     have J:UpS (LS n gl gs gr RA ra) w uu:=H.ext iz
     obtain rfl:=uh
     refine mv 1 G (aN G G G false (kC (a:=ldr cc (Y a1)) (b:=ldr cc (Y d)) G G) (pu (v:= Hs) G (aE (aY G (bA (aM ?_))))))
     have rf:=az.szm hZ ew bc ll ji
     have pj:B+u*(2*B+4)+2*B+4≤68719476736:=by have h9:=dX (2*B+4) (show u+1≤64 by omega);rw [gO] at h9;omega
     refine aL (mv 4 G (bR G G (vs:= [a9 gl 0,AI a1,AI d,AI ((ldr cc (Y d):Nat):Int)]) (by kernel_rfl) (by decide) (O6 (o.ext (ab.t iz)).ldr (a7 hlb J.size) hcc (k:=a1) (q:=d) (j:=ldr cc (Y d)) (by omega) (by omega) rf pj hB34) ?_))
     rintro _ pw ⟨rfl,lf,qy⟩
     refine bL ?_
     have vu:=(o.ext (ab.t iz)).ldr.no64
     have U:UpS (LS n gl gs gr RA ra) w pw:=J.trans qy
     obtain⟨_,_,pk⟩:=(lf).op
     refine aS (cC (cB (⟨pw,ldr cc (Y d)+1,((ldr cc (Y d):Nat):Int),a1,fI dO a1 d (ldr cc (Y d)) Y⟩:a0×Nat×Int×Nat×Mx) ⟨U,(by omega),pk.ldr,(by omega),(az.met hZ ew bc ll ji)⟩ (show cc-(ldr cc (Y d)+1)<cc-u by omega) G ⟨rfl,rfl,rfl,rfl,rfl,Ht⟩))
    ·have au:=az.brk ew bc (bK ji)
     refine aL (mv 2 G (aN G G G false (kS (a:=a1) (b:=d) G G) (mv 2 G (pf gl 0 G (pf gl 0 G (aK G G (aQ cG (o.ext ab).bl G) (mv 1 G (aX G G G d9 cV a1 G ah bi (aK G G (cP cD (ab.cell bz)) (bR G G (vs:= [By (ra (h.getD a1 0)) cc (rc (h.getD a1 0))]) (by kernel_rfl) (by decide) (kP (o.ext ab) hcc (i:=a1)) ?_))))))))))
     rintro _ ug ⟨_,rfl,uw,aq⟩
     refine bL ?_
     have J:UpS (LS n gl gs gr RA ra) w ug:=H.ext aq
     obtain rfl:=uw
     refine mv 1 G (aN G G G true (nU (a:=ldr cc (Y a1)) (b:=ldr cc (Y d)) G G) (pu (v:= BY) G (aE (bJ G (cM (cK (ED (by decide) (cT (cL (aM (aH (aH ?_))))))))))))
     by_cases ba:Y d (ldr cc (Y d))<0
     ·have bu:decide (Y d (ldr cc (Y d))<0)=true:=decide_eq_true ba
      obtain⟨av,dd,dm⟩:=((o.ext (ab.t aq)).ho).rowAt (i:=d) (by omega)
      obtain⟨aw,_,_,_,_,da,_,_,gn⟩:=((o.ext (ab.t aq)).hc).at (o.per.lt d (by omega)) (show ldr cc (Y d)<cc by omega)
      have gn:=gn.cast (o.ent d (ldr cc (Y d)) (by omega) (by omega)).symm
      refine dP cF 18 [] [Is (a9 gl 0),Is (a9 gl 0),Is (a9 gl 0),Is (By RA n rcap),Is (AI d),Is (.pointer (some av)),Is (By (ra (h.getD d 0)) cc (rc (h.getD d 0))),Is (a9 gl 0),Is (a9 gl 0),Is (a9 gl 0),Is (By RA n rcap),Is (AI d),Is (.pointer (some av)),Is (By (ra (h.getD d 0)) cc (rc (h.getD d 0))),Is (AI ((ldr cc (Y d):Nat):Int)),Is (.pointer (some aw)),Is (.pointer (some (aw.add 0))),Is (BY)] [[],[0],[1],[2],[],[3,4],[5],[],[7],[8],[9],[],[10,11],[12],[13],[6,14],[15],[16]] [[],[0],[0,1],[0,1,2],[],[0,1,2,3,4],[0,1,2,3,4,5],[],[7],[7,8],[7,8,9],[],[7,8,9,10,11],[7,8,9,10,11,12],[7,8,9,10,11,12,13],[0,1,2,3,4,5,6,7,8,9,10,11,12,13,14],[0,1,2,3,4,5,6,7,8,9,10,11,12,13,14,15],[0,1,2,3,4,5,6,7,8,9,10,11,12,13,14,15,16]] rfl
       (aD G G (aA G G ?_) (aD G G (aA G G ?_) (aD G G (aA G G ?_) (aD G G (aA G G ?_) (aD G G (aA G G ?_) (aD G G (aA G G ?_) (aD G G (aA G G ?_) (aD G G (aA G G ?_) (aD G G (aA G G ?_) (aD G G (aA G G ?_) (aD G G (aA G G ?_) (aD G G (aA G G ?_) (aD G G (aA G G ?_) (aD G G (aA G G ?_) (aD G G (aA G G ?_) (aD G G (aA G G ?_) (aD G G (aA G G ?_) (aD G G (aA G G ?_) dF)))))))))))))))))) ?_
      ·intro uf vm
       have U:UpS (LS n gl gs gr RA ra) w uf:=J.ext vm
       refine a8 (mv 1 G ?_)
       exact aC G aB rfl
      ·intro ut vn
       have U:UpS (LS n gl gs gr RA ra) w ut:=J.ext vn
       refine dk G G (a8 (pf gl 0 G ?_))
       exact aC G aB rfl
      ·intro uy vf
       have U:UpS (LS n gl gs gr RA ra) w uy:=J.ext vf
       refine dk G G (a8 (pf gl 0 G ?_))
       exact aC G aB rfl
      ·intro vd mn
       have U:UpS (LS n gl gs gr RA ra) w vd:=J.ext mn
       refine dk G G (a8 (aK G G (aQ cG (o.ext (ab.t (aq.t mn))).bl G) ?_))
       exact aC G aB rfl
      ·intro ui vi
       have U:UpS (LS n gl gs gr RA ra) w ui:=J.ext vi
       refine a8 (mv 1 G ?_)
       exact aC G aB rfl
      ·intro ur vg
       have U:UpS (LS n gl gs gr RA ra) w ur:=J.ext vg
       refine dk G G (dk G G (a8 (aX G G G d9 cV d G av dd ?_)))
       exact aC G aB rfl
      ·intro ve tb
       have U:UpS (LS n gl gs gr RA ra) w ve:=J.ext tb
       refine dk G G (a8 (aK G G (cP cD (tb.cell dm)) ?_))
       exact aC G aB rfl
      ·intro uv vh
       have U:UpS (LS n gl gs gr RA ra) w uv:=J.ext vh
       refine a8 (mv 1 G ?_)
       exact aC G aB rfl
      ·intro um ud
       have U:UpS (LS n gl gs gr RA ra) w um:=J.ext ud
       refine dk G G (a8 (pf gl 0 G ?_))
       exact aC G aB rfl
      ·intro uz ub
       have U:UpS (LS n gl gs gr RA ra) w uz:=J.ext ub
       refine dk G G (a8 (pf gl 0 G ?_))
       exact aC G aB rfl
      ·intro uc ng
       have U:UpS (LS n gl gs gr RA ra) w uc:=J.ext ng
       refine dk G G (a8 (aK G G (aQ cG (o.ext (ab.t (aq.t ng))).bl G) ?_))
       exact aC G aB rfl
      ·intro ku ml
       have U:UpS (LS n gl gs gr RA ra) w ku:=J.ext ml
       refine a8 (mv 1 G ?_)
       exact aC G aB rfl
      ·intro ky sn
       have U:UpS (LS n gl gs gr RA ra) w ky:=J.ext sn
       refine dk G G (dk G G (a8 (aX G G G d9 cV d G av dd ?_)))
       exact aC G aB rfl
      ·intro qq fd
       have U:UpS (LS n gl gs gr RA ra) w qq:=J.ext fd
       refine dk G G (a8 (aK G G (cP cD (fd.cell dm)) ?_))
       exact aC G aB rfl
      ·intro kv gk
       have U:UpS (LS n gl gs gr RA ra) w kv:=J.ext gk
       refine dk G G (a8 (bR G G (vs:= [By (ra (h.getD d 0)) cc (rc (h.getD d 0))]) (by kernel_rfl) (by decide) (kP (o.ext (ab.t (aq.t gk))) hcc (i:=d)) ?_))
       rintro _ tr ⟨_,rfl,my,gw⟩
       refine bL ?_
       have jf:UpS (LS n gl gs gr RA ra) w tr:=U.ext gw
       obtain rfl:=my
       exact aC G gw rfl
      ·intro qw qf
       have U:UpS (LS n gl gs gr RA ra) w qw:=J.ext qf
       refine dk G G (dk G G (a8 (aX G G G bM aG.size (ldr cc (Y d)) G aw da ?_)))
       exact aC G aB rfl
      ·intro qx oq
       have U:UpS (LS n gl gs gr RA ra) w qx:=J.ext oq
       refine dk G G (a8 (pu (v:= .pointer (some (aw.add 0))) G ?_))
       exact aC G aB rfl
      ·intro mg ik
       have U:UpS (LS n gl gs gr RA ra) w mg:=J.ext ik
       refine dk G G (a8 (aK G G (cP fU ((o.ext (ab.t (aq.t ik))).neg (i:=d) (j:=(ldr cc (Y d))) (by omega) (by omega) da bu)) ?_))
       exact aC G aB rfl
      ·intro qk ee
       have U:UpS (LS n gl gs gr RA ra) w qk:=J.ext ee
       refine dk G G (dk G G (dk G G (dk G G (dk G G (dk G G (dk G G (dk G G (dk G G (dk G G (dk G G (dk G G (dk G G (dk G G ?_)))))))))))))
       refine dk G G (dk G G (dk G G (dk G G (a8 (aS (dA (aM (bJ G (aL (mv 2 G (bR G G (vs:= [a9 gl 0,AI d]) (by kernel_rfl) (by decide) (E4 (o.ext (ab.t (aq.t ee))).ldr (a7 hlb U.size) hcc (i:=d) (by omega)) ?_)))))))))))
       rintro _ fr ⟨rfl,iw,kc⟩
       refine bL ?_
       have vk:=(o.ext (ab.t (aq.t ee))).ldr.no64
       have jf:UpS (LS n gl gs gr RA ra) w fr:=U.trans kc
       obtain⟨_,_,ju⟩:=(iw).op
       refine aE (aH (aH ?_))
       have bj:=ju.ldr.cong (Y:=dD cc d Y) fun a b _ _=>by rw [BN ba]
       obtain⟨_,_,kk⟩:=(bj).op
       refine aL (mv 2 G (aE (bB ?_)))
       have cd:=kk.ldr.cong (Y:=dN d (d-0) (dD cc d Y)) fun a b _ _=>tE a b
       obtain⟨_,_,ja⟩:=(cd).op
       refine d6 (T:=a0×Nat) (fun⟨ws,s⟩=> [(0,a9 gl 0),(1,AI d),(4,Hs),(5,AI a1),(6,AI ((ldr cc (Y d):Nat):Int)),(7,AI ((ldr cc (Y d):Nat):Int)),(8,AI ((d-s:Nat):Int)),(9,a9 gl 0),(10,a9 gl 0),(11,a9 gl 0),(12,By RA n rcap),(13,AI d),(14,.pointer (some ac)),(15,By (ra (aa.getD d 0)) cc (rc (aa.getD d 0))),(16,AI ((ldr cc (Y d):Nat):Int)),(17,AI ((ldr cc (Y d):Nat):Int)),(18,a9 gl 0),(19,a9 gl 0),(20,a9 gl 0),(21,By RA n rcap),(22,AI d),(23,.pointer (some ac)),(24,By (ra (aa.getD d 0)) cc (rc (aa.getD d 0))),(25,AI cc),(26,Hs),(27,Hs),(28,AI ((ldr cc (Y d):Nat):Int)),(29,AI lz),(30,Hs),(31,Hs),(35,AI ((ldr cc (Y d):Nat):Int)),(36,AI a1),(37,AI d),(38,BY),(39,BY),(40,a9 gl 0),(41,a9 gl 0),(42,a9 gl 0),(43,By RA n rcap),(44,AI a1),(45,.pointer (some ah)),(46,By (ra (h.getD a1 0)) cc (rc (h.getD a1 0))),(47,AI ((ldr cc (Y a1):Nat):Int)),(48,AI ((ldr cc (Y d):Nat):Int)),(49,Hs),(50,Hs),(53,AI a1),(54,AI d),(55,Hs),(56,Hs),(57,a9 gl 0),(58,a9 gl 0),(59,a9 gl 0),(60,By RA n rcap),(61,AI a1),(62,.pointer (some ah)),(63,By (ra (h.getD a1 0)) cc (rc (h.getD a1 0))),(64,AI ((ldr cc (Y a1):Nat):Int)),(65,AI ((ldr cc (Y d):Nat):Int)),(66,BY),(67,BY),(73,a9 gl 0),(74,a9 gl 0),(75,a9 gl 0),(76,By RA n rcap),(77,AI d),(78,.pointer (some av)),(79,By (ra (h.getD d 0)) cc (rc (h.getD d 0))),(80,a9 gl 0),(81,a9 gl 0),(82,a9 gl 0),(83,By RA n rcap),(84,AI d),(85,.pointer (some av)),(86,By (ra (h.getD d 0)) cc (rc (h.getD d 0))),(87,AI ((ldr cc (Y d):Nat):Int)),(88,.pointer (some aw)),(89,.pointer (some (aw.add 0))),(90,BY),(91,a9 gl 0),(92,AI d),(94,AI d)]) (fun⟨ws,s⟩=>ws) (fun⟨ws,s⟩=>(UpS (LS n gl gs gr RA ra) w ws)∧(s≤d-a1)∧(Ldr lb n cc gl gs gr RA rcap ra rc ws (dN d (d-s) (dD cc d Y)))) (fun⟨ws,s⟩=>(d-a1)-s)
        (⟨fr,0⟩:a0×Nat) ⟨jf,(by omega),ja.ldr⟩ G ⟨rfl,rfl,rfl,rfl,rfl,rfl,rfl,rfl,rfl,rfl,rfl,rfl,rfl,rfl,rfl,rfl,rfl,rfl,rfl,rfl,rfl,rfl,rfl,rfl,rfl,rfl,rfl,rfl,rfl,rfl,rfl,rfl,rfl,rfl,rfl,rfl,rfl,rfl,rfl,rfl,rfl,rfl,rfl,rfl,rfl,rfl,rfl,rfl,rfl,rfl,rfl,rfl,rfl,rfl,rfl,rfl,rfl,rfl,rfl,rfl,rfl,rfl,rfl,rfl,rfl,rfl,rfl,rfl,rfl,rfl,rfl,rfl,rfl,rfl,rfl,rfl,rfl,rfl,rfl,rfl,rfl,rfl,Ht⟩ ?_
       rintro⟨ws,s⟩ ⟨I,dc,ar⟩
       refine d4 [(0,a9 gl 0),(1,AI d),(4,Hs),(5,AI a1),(6,AI ((ldr cc (Y d):Nat):Int)),(7,AI ((ldr cc (Y d):Nat):Int)),(8,AI ((d-s:Nat):Int)),(9,a9 gl 0),(10,a9 gl 0),(11,a9 gl 0),(12,By RA n rcap),(13,AI d),(14,.pointer (some ac)),(15,By (ra (aa.getD d 0)) cc (rc (aa.getD d 0))),(16,AI ((ldr cc (Y d):Nat):Int)),(17,AI ((ldr cc (Y d):Nat):Int)),(18,a9 gl 0),(19,a9 gl 0),(20,a9 gl 0),(21,By RA n rcap),(22,AI d),(23,.pointer (some ac)),(24,By (ra (aa.getD d 0)) cc (rc (aa.getD d 0))),(25,AI cc),(26,Hs),(27,Hs),(28,AI ((ldr cc (Y d):Nat):Int)),(29,AI lz),(30,Hs),(31,Hs),(35,AI ((ldr cc (Y d):Nat):Int)),(36,AI a1),(37,AI d),(38,BY),(39,BY),(40,a9 gl 0),(41,a9 gl 0),(42,a9 gl 0),(43,By RA n rcap),(44,AI a1),(45,.pointer (some ah)),(46,By (ra (h.getD a1 0)) cc (rc (h.getD a1 0))),(47,AI ((ldr cc (Y a1):Nat):Int)),(48,AI ((ldr cc (Y d):Nat):Int)),(49,Hs),(50,Hs),(53,AI a1),(54,AI d),(55,Hs),(56,Hs),(57,a9 gl 0),(58,a9 gl 0),(59,a9 gl 0),(60,By RA n rcap),(61,AI a1),(62,.pointer (some ah)),(63,By (ra (h.getD a1 0)) cc (rc (h.getD a1 0))),(64,AI ((ldr cc (Y a1):Nat):Int)),(65,AI ((ldr cc (Y d):Nat):Int)),(66,BY),(67,BY),(73,a9 gl 0),(74,a9 gl 0),(75,a9 gl 0),(76,By RA n rcap),(77,AI d),(78,.pointer (some av)),(79,By (ra (h.getD d 0)) cc (rc (h.getD d 0))),(80,a9 gl 0),(81,a9 gl 0),(82,a9 gl 0),(83,By RA n rcap),(84,AI d),(85,.pointer (some av)),(86,By (ra (h.getD d 0)) cc (rc (h.getD d 0))),(87,AI ((ldr cc (Y d):Nat):Int)),(88,.pointer (some aw)),(89,.pointer (some (aw.add 0))),(90,BY),(91,a9 gl 0),(92,AI d),(94,AI d)] ws G ⟨rfl,rfl,rfl,rfl,rfl,rfl,rfl,rfl,rfl,rfl,rfl,rfl,rfl,rfl,rfl,rfl,rfl,rfl,rfl,rfl,rfl,rfl,rfl,rfl,rfl,rfl,rfl,rfl,rfl,rfl,rfl,rfl,rfl,rfl,rfl,rfl,rfl,rfl,rfl,rfl,rfl,rfl,rfl,rfl,rfl,rfl,rfl,rfl,rfl,rfl,rfl,rfl,rfl,rfl,rfl,rfl,rfl,rfl,rfl,rfl,rfl,rfl,rfl,rfl,rfl,rfl,rfl,rfl,rfl,rfl,rfl,rfl,rfl,rfl,rfl,rfl,rfl,rfl,rfl,rfl,rfl,rfl,Ht⟩ ?_
       obtain⟨_,_,ce⟩:=(ar).op
       refine aH (aH ?_)
       by_cases kd:s<d-a1
       ·refine aL (mv 2 G (aN G G G true (nV (a:=d-s) (b:=a1) G G) (aE (bJ G (bA (aM (aH (bB (aL (mv 3 G (bC G G G (((d-s)-1:Nat):Int) (iY (a:=d-s) (b:=1) G G) (bR G G (vs:= [a9 gl 0,AI ((d-s:Nat):Int),AI (((d-s)-1:Nat):Int)]) (by kernel_rfl) (by decide) (qP ce.ldr (a7 hlb I.size) hcc (i:=d-s) (j:=d-s-1)) ?_))))))))))))
        rintro _ gg ⟨rfl,jp,im⟩
        refine bL ?_
        have vj:=ce.ldr.no64
        have H:UpS (LS n gl gs gr RA ra) w gg:=I.trans im
        obtain⟨_,_,jx⟩:=(jp).op
        refine aS (cC (aM (aL (mv 1 G (bC G G G (((d-s)-1:Nat):Int) (iY (a:=d-s) (b:=1) G G) (mv 1 G (aS (cB (⟨gg,s+1⟩:a0×Nat) ⟨H,(by omega),(jx.ldr.cong fun a b _ _=>(tF a b))⟩ (show (d-a1)-(s+1)<(d-a1)-s by omega) G ⟨rfl,rfl,rfl,rfl,rfl,rfl,rfl,rfl,rfl,rfl,rfl,rfl,rfl,rfl,rfl,rfl,rfl,rfl,rfl,rfl,rfl,rfl,rfl,rfl,rfl,rfl,rfl,rfl,rfl,rfl,rfl,rfl,rfl,rfl,rfl,rfl,rfl,rfl,rfl,rfl,rfl,rfl,rfl,rfl,rfl,rfl,rfl,rfl,rfl,rfl,rfl,rfl,rfl,rfl,rfl,rfl,rfl,rfl,rfl,rfl,rfl,rfl,rfl,rfl,rfl,rfl,rfl,rfl,rfl,rfl,rfl,rfl,rfl,rfl,rfl,rfl,rfl,rfl,rfl,rfl,rfl,rfl,Ht⟩))))))))
       ·refine aL (mv 2 G (aN G G G false (mM (a:=d-s) (b:=a1) G G) (aE (aY G (cM (cK (cT (cL (aM (aH ?_))))))))))
        have bw:=ce.ldr.cong (Y:=dN d a1 (dD cc d Y)) fun a b _ _=>by rw [show d-s=a1 by omega]
        obtain⟨_,_,df⟩:=(bw).op
        refine aL (mv 2 G (bC G G G ((d+1:Nat):Int) (bW (a:=d) (b:=1) G G) (bR G G (vs:= [a9 gl 0,AI ((d+1:Nat):Int)]) (by kernel_rfl) (by decide) (qQ df.ldr (a7 hlb I.size) hcc hn (m:=d+1) (az.sztY hcc hz hF au)) ?_)))
        rintro _ qg ⟨rfl,ki,kg⟩
        refine bL ?_
        have uj:=df.ldr.no64
        have H:UpS (LS n gl gs gr RA ra) w qg:=I.trans kg
        obtain⟨_,_,jq⟩:=(ki).op
        refine aE (sr (mv 1 G (aE (bG (bF [BY] G ⟨rfl,Ht⟩ ?_)))))
        exact⟨by rw [(lE au).1];rfl,jq.ldr.cong (fun a b _ _=>by rw [(lE au).2]),H⟩
     ·have bu:decide (Y d (ldr cc (Y d))<0)=false:=decide_eq_false ba
      obtain⟨ae,cu,co⟩:=((o.ext (ab.t aq)).ho).rowAt (i:=d) (by omega)
      obtain⟨ak,_,_,_,_,cf,_,_,eh⟩:=((o.ext (ab.t aq)).hc).at (o.per.lt d (by omega)) (show ldr cc (Y d)<cc by omega)
      have eh:=eh.cast (o.ent d (ldr cc (Y d)) (by omega) (by omega)).symm
      refine dP cF 18 [] [Is (a9 gl 0),Is (a9 gl 0),Is (a9 gl 0),Is (By RA n rcap),Is (AI d),Is (.pointer (some ae)),Is (By (ra (h.getD d 0)) cc (rc (h.getD d 0))),Is (a9 gl 0),Is (a9 gl 0),Is (a9 gl 0),Is (By RA n rcap),Is (AI d),Is (.pointer (some ae)),Is (By (ra (h.getD d 0)) cc (rc (h.getD d 0))),Is (AI ((ldr cc (Y d):Nat):Int)),Is (.pointer (some ak)),Is (.pointer (some (ak.add 0))),Is (Hs)] [[],[0],[1],[2],[],[3,4],[5],[],[7],[8],[9],[],[10,11],[12],[13],[6,14],[15],[16]] [[],[0],[0,1],[0,1,2],[],[0,1,2,3,4],[0,1,2,3,4,5],[],[7],[7,8],[7,8,9],[],[7,8,9,10,11],[7,8,9,10,11,12],[7,8,9,10,11,12,13],[0,1,2,3,4,5,6,7,8,9,10,11,12,13,14],[0,1,2,3,4,5,6,7,8,9,10,11,12,13,14,15],[0,1,2,3,4,5,6,7,8,9,10,11,12,13,14,15,16]] rfl
       (aD G G (aA G G ?_) (aD G G (aA G G ?_) (aD G G (aA G G ?_) (aD G G (aA G G ?_) (aD G G (aA G G ?_) (aD G G (aA G G ?_) (aD G G (aA G G ?_) (aD G G (aA G G ?_) (aD G G (aA G G ?_) (aD G G (aA G G ?_) (aD G G (aA G G ?_) (aD G G (aA G G ?_) (aD G G (aA G G ?_) (aD G G (aA G G ?_) (aD G G (aA G G ?_) (aD G G (aA G G ?_) (aD G G (aA G G ?_) (aD G G (aA G G ?_) dF)))))))))))))))))) ?_
      ·intro tk pp
       have U:UpS (LS n gl gs gr RA ra) w tk:=J.ext pp
       refine a8 (mv 1 G ?_)
       exact aC G aB rfl
      ·intro pt ti
       have U:UpS (LS n gl gs gr RA ra) w pt:=J.ext ti
       refine dk G G (a8 (pf gl 0 G ?_))
       exact aC G aB rfl
      ·intro oz mr
       have U:UpS (LS n gl gs gr RA ra) w oz:=J.ext mr
       refine dk G G (a8 (pf gl 0 G ?_))
       exact aC G aB rfl
      ·intro ry il
       have U:UpS (LS n gl gs gr RA ra) w ry:=J.ext il
       refine dk G G (a8 (aK G G (aQ cG (o.ext (ab.t (aq.t il))).bl G) ?_))
       exact aC G aB rfl
      ·intro rz qe
       have U:UpS (LS n gl gs gr RA ra) w rz:=J.ext qe
       refine a8 (mv 1 G ?_)
       exact aC G aB rfl
      ·intro sc qr
       have U:UpS (LS n gl gs gr RA ra) w sc:=J.ext qr
       refine dk G G (dk G G (a8 (aX G G G d9 cV d G ae cu ?_)))
       exact aC G aB rfl
      ·intro oy ie
       have U:UpS (LS n gl gs gr RA ra) w oy:=J.ext ie
       refine dk G G (a8 (aK G G (cP cD (ie.cell co)) ?_))
       exact aC G aB rfl
      ·intro nw oh
       have U:UpS (LS n gl gs gr RA ra) w nw:=J.ext oh
       refine a8 (mv 1 G ?_)
       exact aC G aB rfl
      ·intro ob mx
       have U:UpS (LS n gl gs gr RA ra) w ob:=J.ext mx
       refine dk G G (a8 (pf gl 0 G ?_))
       exact aC G aB rfl
      ·intro py pg
       have U:UpS (LS n gl gs gr RA ra) w py:=J.ext pg
       refine dk G G (a8 (pf gl 0 G ?_))
       exact aC G aB rfl
      ·intro mh ft
       have U:UpS (LS n gl gs gr RA ra) w mh:=J.ext ft
       refine dk G G (a8 (aK G G (aQ cG (o.ext (ab.t (aq.t ft))).bl G) ?_))
       exact aC G aB rfl
      ·intro lj li
       have U:UpS (LS n gl gs gr RA ra) w lj:=J.ext li
       refine a8 (mv 1 G ?_)
       exact aC G aB rfl
      ·intro qm oc
       have U:UpS (LS n gl gs gr RA ra) w qm:=J.ext oc
       refine dk G G (dk G G (a8 (aX G G G d9 cV d G ae cu ?_)))
       exact aC G aB rfl
      ·intro qc fy
       have U:UpS (LS n gl gs gr RA ra) w qc:=J.ext fy
       refine dk G G (a8 (aK G G (cP cD (fy.cell co)) ?_))
       exact aC G aB rfl
      ·intro tf ig
       have U:UpS (LS n gl gs gr RA ra) w tf:=J.ext ig
       refine dk G G (a8 (bR G G (vs:= [By (ra (h.getD d 0)) cc (rc (h.getD d 0))]) (by kernel_rfl) (by decide) (kP (o.ext (ab.t (aq.t ig))) hcc (i:=d)) ?_))
       rintro _ mz ⟨_,rfl,lu,gt⟩
       refine bL ?_
       have jf:UpS (LS n gl gs gr RA ra) w mz:=U.ext gt
       obtain rfl:=lu
       exact aC G gt rfl
      ·intro og rp
       have U:UpS (LS n gl gs gr RA ra) w og:=J.ext rp
       refine dk G G (dk G G (a8 (aX G G G bM aG.size (ldr cc (Y d)) G ak cf ?_)))
       exact aC G aB rfl
      ·intro po om
       have U:UpS (LS n gl gs gr RA ra) w po:=J.ext om
       refine dk G G (a8 (pu (v:= .pointer (some (ak.add 0))) G ?_))
       exact aC G aB rfl
      ·intro qi fz
       have U:UpS (LS n gl gs gr RA ra) w qi:=J.ext fz
       refine dk G G (a8 (aK G G (cP fU ((o.ext (ab.t (aq.t fz))).neg (i:=d) (j:=(ldr cc (Y d))) (by omega) (by omega) cf bu)) ?_))
       exact aC G aB rfl
      ·intro gj fq
       have U:UpS (LS n gl gs gr RA ra) w gj:=J.ext fq
       refine dk G G (dk G G (dk G G (dk G G (dk G G (dk G G (dk G G (dk G G (dk G G (dk G G (dk G G (dk G G (dk G G (dk G G ?_)))))))))))))
       refine dk G G (dk G G (dk G G (dk G G (a8 (aS (dA (aM (aY G (bA (aM (aH (aH ?_))))))))))))
       have bj:=(o.ext (ab.t (aq.t fq))).ldr.cong (Y:=dD cc d Y) fun a b _ _=>by rw [BO ba]
       obtain⟨_,_,je⟩:=(bj).op
       refine aL (mv 2 G (aE (bB ?_)))
       have cd:=je.ldr.cong (Y:=dN d (d-0) (dD cc d Y)) fun a b _ _=>tE a b
       obtain⟨_,_,jb⟩:=(cd).op
       refine d6 (T:=a0×Nat) (fun⟨ws,s⟩=> [(0,a9 gl 0),(1,AI d),(4,Hs),(5,AI a1),(6,AI ((ldr cc (Y d):Nat):Int)),(7,AI ((ldr cc (Y d):Nat):Int)),(8,AI ((d-s:Nat):Int)),(9,a9 gl 0),(10,a9 gl 0),(11,a9 gl 0),(12,By RA n rcap),(13,AI d),(14,.pointer (some ac)),(15,By (ra (aa.getD d 0)) cc (rc (aa.getD d 0))),(16,AI ((ldr cc (Y d):Nat):Int)),(17,AI ((ldr cc (Y d):Nat):Int)),(18,a9 gl 0),(19,a9 gl 0),(20,a9 gl 0),(21,By RA n rcap),(22,AI d),(23,.pointer (some ac)),(24,By (ra (aa.getD d 0)) cc (rc (aa.getD d 0))),(25,AI cc),(26,Hs),(27,Hs),(28,AI ((ldr cc (Y d):Nat):Int)),(29,AI lz),(30,Hs),(31,Hs),(35,AI ((ldr cc (Y d):Nat):Int)),(36,AI a1),(37,AI d),(38,BY),(39,BY),(40,a9 gl 0),(41,a9 gl 0),(42,a9 gl 0),(43,By RA n rcap),(44,AI a1),(45,.pointer (some ah)),(46,By (ra (h.getD a1 0)) cc (rc (h.getD a1 0))),(47,AI ((ldr cc (Y a1):Nat):Int)),(48,AI ((ldr cc (Y d):Nat):Int)),(49,Hs),(50,Hs),(53,AI a1),(54,AI d),(55,Hs),(56,Hs),(57,a9 gl 0),(58,a9 gl 0),(59,a9 gl 0),(60,By RA n rcap),(61,AI a1),(62,.pointer (some ah)),(63,By (ra (h.getD a1 0)) cc (rc (h.getD a1 0))),(64,AI ((ldr cc (Y a1):Nat):Int)),(65,AI ((ldr cc (Y d):Nat):Int)),(66,BY),(67,BY),(73,a9 gl 0),(74,a9 gl 0),(75,a9 gl 0),(76,By RA n rcap),(77,AI d),(78,.pointer (some ae)),(79,By (ra (h.getD d 0)) cc (rc (h.getD d 0))),(80,a9 gl 0),(81,a9 gl 0),(82,a9 gl 0),(83,By RA n rcap),(84,AI d),(85,.pointer (some ae)),(86,By (ra (h.getD d 0)) cc (rc (h.getD d 0))),(87,AI ((ldr cc (Y d):Nat):Int)),(88,.pointer (some ak)),(89,.pointer (some (ak.add 0))),(90,Hs),(94,AI d)]) (fun⟨ws,s⟩=>ws) (fun⟨ws,s⟩=>(UpS (LS n gl gs gr RA ra) w ws)∧(s≤d-a1)∧(Ldr lb n cc gl gs gr RA rcap ra rc ws (dN d (d-s) (dD cc d Y)))) (fun⟨ws,s⟩=>(d-a1)-s)
        (⟨gj,0⟩:a0×Nat) ⟨U,(by omega),jb.ldr⟩ G ⟨rfl,rfl,rfl,rfl,rfl,rfl,rfl,rfl,rfl,rfl,rfl,rfl,rfl,rfl,rfl,rfl,rfl,rfl,rfl,rfl,rfl,rfl,rfl,rfl,rfl,rfl,rfl,rfl,rfl,rfl,rfl,rfl,rfl,rfl,rfl,rfl,rfl,rfl,rfl,rfl,rfl,rfl,rfl,rfl,rfl,rfl,rfl,rfl,rfl,rfl,rfl,rfl,rfl,rfl,rfl,rfl,rfl,rfl,rfl,rfl,rfl,rfl,rfl,rfl,rfl,rfl,rfl,rfl,rfl,rfl,rfl,rfl,rfl,rfl,rfl,rfl,rfl,rfl,rfl,rfl,Ht⟩ ?_
       rintro⟨ws,s⟩ ⟨I,dc,ar⟩
       refine d4 [(0,a9 gl 0),(1,AI d),(4,Hs),(5,AI a1),(6,AI ((ldr cc (Y d):Nat):Int)),(7,AI ((ldr cc (Y d):Nat):Int)),(8,AI ((d-s:Nat):Int)),(9,a9 gl 0),(10,a9 gl 0),(11,a9 gl 0),(12,By RA n rcap),(13,AI d),(14,.pointer (some ac)),(15,By (ra (aa.getD d 0)) cc (rc (aa.getD d 0))),(16,AI ((ldr cc (Y d):Nat):Int)),(17,AI ((ldr cc (Y d):Nat):Int)),(18,a9 gl 0),(19,a9 gl 0),(20,a9 gl 0),(21,By RA n rcap),(22,AI d),(23,.pointer (some ac)),(24,By (ra (aa.getD d 0)) cc (rc (aa.getD d 0))),(25,AI cc),(26,Hs),(27,Hs),(28,AI ((ldr cc (Y d):Nat):Int)),(29,AI lz),(30,Hs),(31,Hs),(35,AI ((ldr cc (Y d):Nat):Int)),(36,AI a1),(37,AI d),(38,BY),(39,BY),(40,a9 gl 0),(41,a9 gl 0),(42,a9 gl 0),(43,By RA n rcap),(44,AI a1),(45,.pointer (some ah)),(46,By (ra (h.getD a1 0)) cc (rc (h.getD a1 0))),(47,AI ((ldr cc (Y a1):Nat):Int)),(48,AI ((ldr cc (Y d):Nat):Int)),(49,Hs),(50,Hs),(53,AI a1),(54,AI d),(55,Hs),(56,Hs),(57,a9 gl 0),(58,a9 gl 0),(59,a9 gl 0),(60,By RA n rcap),(61,AI a1),(62,.pointer (some ah)),(63,By (ra (h.getD a1 0)) cc (rc (h.getD a1 0))),(64,AI ((ldr cc (Y a1):Nat):Int)),(65,AI ((ldr cc (Y d):Nat):Int)),(66,BY),(67,BY),(73,a9 gl 0),(74,a9 gl 0),(75,a9 gl 0),(76,By RA n rcap),(77,AI d),(78,.pointer (some ae)),(79,By (ra (h.getD d 0)) cc (rc (h.getD d 0))),(80,a9 gl 0),(81,a9 gl 0),(82,a9 gl 0),(83,By RA n rcap),(84,AI d),(85,.pointer (some ae)),(86,By (ra (h.getD d 0)) cc (rc (h.getD d 0))),(87,AI ((ldr cc (Y d):Nat):Int)),(88,.pointer (some ak)),(89,.pointer (some (ak.add 0))),(90,Hs),(94,AI d)] ws G ⟨rfl,rfl,rfl,rfl,rfl,rfl,rfl,rfl,rfl,rfl,rfl,rfl,rfl,rfl,rfl,rfl,rfl,rfl,rfl,rfl,rfl,rfl,rfl,rfl,rfl,rfl,rfl,rfl,rfl,rfl,rfl,rfl,rfl,rfl,rfl,rfl,rfl,rfl,rfl,rfl,rfl,rfl,rfl,rfl,rfl,rfl,rfl,rfl,rfl,rfl,rfl,rfl,rfl,rfl,rfl,rfl,rfl,rfl,rfl,rfl,rfl,rfl,rfl,rfl,rfl,rfl,rfl,rfl,rfl,rfl,rfl,rfl,rfl,rfl,rfl,rfl,rfl,rfl,rfl,rfl,Ht⟩ ?_
       obtain⟨_,_,bo⟩:=(ar).op
       refine aH (aH ?_)
       by_cases kd:s<d-a1
       ·refine aL (mv 2 G (aN G G G true (nV (a:=d-s) (b:=a1) G G) (aE (bJ G (bA (aM (aH (bB (aL (mv 3 G (bC G G G (((d-s)-1:Nat):Int) (iY (a:=d-s) (b:=1) G G) (bR G G (vs:= [a9 gl 0,AI ((d-s:Nat):Int),AI (((d-s)-1:Nat):Int)]) (by kernel_rfl) (by decide) (qP bo.ldr (a7 hlb I.size) hcc (i:=d-s) (j:=d-s-1)) ?_))))))))))))
        rintro _ ez ⟨rfl,kq,jv⟩
        refine bL ?_
        have ux:=bo.ldr.no64
        have H:UpS (LS n gl gs gr RA ra) w ez:=I.trans jv
        obtain⟨_,_,jr⟩:=(kq).op
        refine aS (cC (aM (aL (mv 1 G (bC G G G (((d-s)-1:Nat):Int) (iY (a:=d-s) (b:=1) G G) (mv 1 G (aS (cB (⟨ez,s+1⟩:a0×Nat) ⟨H,(by omega),(jr.ldr.cong fun a b _ _=>(tF a b))⟩ (show (d-a1)-(s+1)<(d-a1)-s by omega) G ⟨rfl,rfl,rfl,rfl,rfl,rfl,rfl,rfl,rfl,rfl,rfl,rfl,rfl,rfl,rfl,rfl,rfl,rfl,rfl,rfl,rfl,rfl,rfl,rfl,rfl,rfl,rfl,rfl,rfl,rfl,rfl,rfl,rfl,rfl,rfl,rfl,rfl,rfl,rfl,rfl,rfl,rfl,rfl,rfl,rfl,rfl,rfl,rfl,rfl,rfl,rfl,rfl,rfl,rfl,rfl,rfl,rfl,rfl,rfl,rfl,rfl,rfl,rfl,rfl,rfl,rfl,rfl,rfl,rfl,rfl,rfl,rfl,rfl,rfl,rfl,rfl,rfl,rfl,rfl,rfl,Ht⟩))))))))
       ·refine aL (mv 2 G (aN G G G false (mM (a:=d-s) (b:=a1) G G) (aE (aY G (cM (cK (cT (cL (aM (aH ?_))))))))))
        have bw:=bo.ldr.cong (Y:=dN d a1 (dD cc d Y)) fun a b _ _=>by rw [show d-s=a1 by omega]
        obtain⟨_,_,dw⟩:=(bw).op
        refine aL (mv 2 G (bC G G G ((d+1:Nat):Int) (bW (a:=d) (b:=1) G G) (bR G G (vs:= [a9 gl 0,AI ((d+1:Nat):Int)]) (by kernel_rfl) (by decide) (qQ dw.ldr (a7 hlb I.size) hcc hn (m:=d+1) (az.sztY hcc hz hF au)) ?_)))
        rintro _ tg ⟨rfl,iy,iv⟩
        refine bL ?_
        have tz:=dw.ldr.no64
        have H:UpS (LS n gl gs gr RA ra) w tg:=I.trans iv
        obtain⟨_,_,jd⟩:=(iy).op
        refine aE (sr (mv 1 G (aE (bG (bF [BY] G ⟨rfl,Ht⟩ ?_)))))
        exact⟨by rw [(lE au).1];rfl,jd.ldr.cong (fun a b _ _=>by rw [(lE au).2]),H⟩
  ·refine aL (mv 2 G (aN G G G false (dK (a:=a1) (b:=d) G G) (mv 11 G (pu (v:= Hs) G (aE (aY G (cM (cK (cT (cL (aM (aH (aH ?_)))))))))))))
   have bc:adv cc (Y) (ldr cc (Y d)) (d-a) a=a1:=FN oa dq iu (fun _=>by omega)
   have au:=az.brk ew bc (bE (by omega))
   refine aL (mv 2 G (aN G G G true (kD (a:=a1) (b:=d) G G) (mv 11 G (pu (v:= BY) G (aE (bJ G (cM (cK (ED (by decide) (cT (cL (aM (aH ?_)))))))))))))
   refine aH ?_
   by_cases ba:Y d (ldr cc (Y d))<0
   ·have bu:decide (Y d (ldr cc (Y d))<0)=true:=decide_eq_true ba
    obtain⟨ao,cj,cz⟩:=(o.ho).rowAt (i:=d) (by omega)
    obtain⟨ag,_,_,_,_,cn,_,_,dl⟩:=(o.hc).at (o.per.lt d (by omega)) (show ldr cc (Y d)<cc by omega)
    have dl:=dl.cast (o.ent d (ldr cc (Y d)) (by omega) (by omega)).symm
    refine dP cF 18 [] [Is (a9 gl 0),Is (a9 gl 0),Is (a9 gl 0),Is (By RA n rcap),Is (AI d),Is (.pointer (some ao)),Is (By (ra (h.getD d 0)) cc (rc (h.getD d 0))),Is (a9 gl 0),Is (a9 gl 0),Is (a9 gl 0),Is (By RA n rcap),Is (AI d),Is (.pointer (some ao)),Is (By (ra (h.getD d 0)) cc (rc (h.getD d 0))),Is (AI ((ldr cc (Y d):Nat):Int)),Is (.pointer (some ag)),Is (.pointer (some (ag.add 0))),Is (BY)] [[],[0],[1],[2],[],[3,4],[5],[],[7],[8],[9],[],[10,11],[12],[13],[6,14],[15],[16]] [[],[0],[0,1],[0,1,2],[],[0,1,2,3,4],[0,1,2,3,4,5],[],[7],[7,8],[7,8,9],[],[7,8,9,10,11],[7,8,9,10,11,12],[7,8,9,10,11,12,13],[0,1,2,3,4,5,6,7,8,9,10,11,12,13,14],[0,1,2,3,4,5,6,7,8,9,10,11,12,13,14,15],[0,1,2,3,4,5,6,7,8,9,10,11,12,13,14,15,16]] rfl
     (aD G G (aA G G ?_) (aD G G (aA G G ?_) (aD G G (aA G G ?_) (aD G G (aA G G ?_) (aD G G (aA G G ?_) (aD G G (aA G G ?_) (aD G G (aA G G ?_) (aD G G (aA G G ?_) (aD G G (aA G G ?_) (aD G G (aA G G ?_) (aD G G (aA G G ?_) (aD G G (aA G G ?_) (aD G G (aA G G ?_) (aD G G (aA G G ?_) (aD G G (aA G G ?_) (aD G G (aA G G ?_) (aD G G (aA G G ?_) (aD G G (aA G G ?_) dF)))))))))))))))))) ?_
    ·intro ou qt
     have H:UpS (LS n gl gs gr RA ra) w ou:=I.ext qt
     refine a8 (mv 1 G ?_)
     exact aC G aB rfl
    ·intro qn re
     have H:UpS (LS n gl gs gr RA ra) w qn:=I.ext re
     refine dk G G (a8 (pf gl 0 G ?_))
     exact aC G aB rfl
    ·intro nf tp
     have H:UpS (LS n gl gs gr RA ra) w nf:=I.ext tp
     refine dk G G (a8 (pf gl 0 G ?_))
     exact aC G aB rfl
    ·intro pq gy
     have H:UpS (LS n gl gs gr RA ra) w pq:=I.ext gy
     refine dk G G (a8 (aK G G (aQ cG (o.ext gy).bl G) ?_))
     exact aC G aB rfl
    ·intro se sf
     have H:UpS (LS n gl gs gr RA ra) w se:=I.ext sf
     refine a8 (mv 1 G ?_)
     exact aC G aB rfl
    ·intro nx qz
     have H:UpS (LS n gl gs gr RA ra) w nx:=I.ext qz
     refine dk G G (dk G G (a8 (aX G G G d9 cV d G ao cj ?_)))
     exact aC G aB rfl
    ·intro oe fb
     have H:UpS (LS n gl gs gr RA ra) w oe:=I.ext fb
     refine dk G G (a8 (aK G G (cP cD (fb.cell cz)) ?_))
     exact aC G aB rfl
    ·intro oo td
     have H:UpS (LS n gl gs gr RA ra) w oo:=I.ext td
     refine a8 (mv 1 G ?_)
     exact aC G aB rfl
    ·intro tj si
     have H:UpS (LS n gl gs gr RA ra) w tj:=I.ext si
     refine dk G G (a8 (pf gl 0 G ?_))
     exact aC G aB rfl
    ·intro ot sj
     have H:UpS (LS n gl gs gr RA ra) w ot:=I.ext sj
     refine dk G G (a8 (pf gl 0 G ?_))
     exact aC G aB rfl
    ·intro nd fv
     have H:UpS (LS n gl gs gr RA ra) w nd:=I.ext fv
     refine dk G G (a8 (aK G G (aQ cG (o.ext fv).bl G) ?_))
     exact aC G aB rfl
    ·intro tc kz
     have H:UpS (LS n gl gs gr RA ra) w tc:=I.ext kz
     refine a8 (mv 1 G ?_)
     exact aC G aB rfl
    ·intro rm rj
     have H:UpS (LS n gl gs gr RA ra) w rm:=I.ext rj
     refine dk G G (dk G G (a8 (aX G G G d9 cV d G ao cj ?_)))
     exact aC G aB rfl
    ·intro mw fx
     have H:UpS (LS n gl gs gr RA ra) w mw:=I.ext fx
     refine dk G G (a8 (aK G G (cP cD (fx.cell cz)) ?_))
     exact aC G aB rfl
    ·intro sd fa
     have H:UpS (LS n gl gs gr RA ra) w sd:=I.ext fa
     refine dk G G (a8 (bR G G (vs:= [By (ra (h.getD d 0)) cc (rc (h.getD d 0))]) (by kernel_rfl) (by decide) (kP (o.ext fa) hcc (i:=d)) ?_))
     rintro _ tn ⟨_,rfl,mt,ey⟩
     refine bL ?_
     have J:UpS (LS n gl gs gr RA ra) w tn:=H.ext ey
     obtain rfl:=mt
     exact aC G ey rfl
    ·intro ow ni
     have H:UpS (LS n gl gs gr RA ra) w ow:=I.ext ni
     refine dk G G (dk G G (a8 (aX G G G bM aG.size (ldr cc (Y d)) G ag cn ?_)))
     exact aC G aB rfl
    ·intro te nu
     have H:UpS (LS n gl gs gr RA ra) w te:=I.ext nu
     refine dk G G (a8 (pu (v:= .pointer (some (ag.add 0))) G ?_))
     exact aC G aB rfl
    ·intro qd gc
     have H:UpS (LS n gl gs gr RA ra) w qd:=I.ext gc
     refine dk G G (a8 (aK G G (cP fU ((o.ext gc).neg (i:=d) (j:=(ldr cc (Y d))) (by omega) (by omega) cn bu)) ?_))
     exact aC G aB rfl
    ·intro qv dh
     have H:UpS (LS n gl gs gr RA ra) w qv:=I.ext dh
     refine dk G G (dk G G (dk G G (dk G G (dk G G (dk G G (dk G G (dk G G (dk G G (dk G G (dk G G (dk G G (dk G G (dk G G ?_)))))))))))))
     refine dk G G (dk G G (dk G G (dk G G (a8 (aS (dA (aM (bJ G (aL (mv 2 G (bR G G (vs:= [a9 gl 0,AI d]) (by kernel_rfl) (by decide) (E4 (o.ext dh).ldr (a7 hlb H.size) hcc (i:=d) (by omega)) ?_)))))))))))
     rintro _ fj ⟨rfl,jl,jm⟩
     refine bL ?_
     have uq:=(o.ext dh).ldr.no64
     have J:UpS (LS n gl gs gr RA ra) w fj:=H.trans jm
     obtain⟨_,_,jj⟩:=(jl).op
     refine aE (aH (aH ?_))
     have bj:=jj.ldr.cong (Y:=dD cc d Y) fun a b _ _=>by rw [BN ba]
     obtain⟨_,_,iq⟩:=(bj).op
     refine aL (mv 2 G (aE (bB ?_)))
     have cd:=iq.ldr.cong (Y:=dN d (d-0) (dD cc d Y)) fun a b _ _=>tE a b
     obtain⟨_,_,kp⟩:=(cd).op
     refine d6 (T:=a0×Nat) (fun⟨ws,s⟩=> [(0,a9 gl 0),(1,AI d),(4,Hs),(5,AI a1),(6,AI ((ldr cc (Y d):Nat):Int)),(7,AI ((ldr cc (Y d):Nat):Int)),(8,AI ((d-s:Nat):Int)),(9,a9 gl 0),(10,a9 gl 0),(11,a9 gl 0),(12,By RA n rcap),(13,AI d),(14,.pointer (some ac)),(15,By (ra (aa.getD d 0)) cc (rc (aa.getD d 0))),(16,AI ((ldr cc (Y d):Nat):Int)),(17,AI ((ldr cc (Y d):Nat):Int)),(18,a9 gl 0),(19,a9 gl 0),(20,a9 gl 0),(21,By RA n rcap),(22,AI d),(23,.pointer (some ac)),(24,By (ra (aa.getD d 0)) cc (rc (aa.getD d 0))),(25,AI cc),(26,Hs),(27,Hs),(28,AI ((ldr cc (Y d):Nat):Int)),(29,AI lz),(30,Hs),(31,Hs),(35,AI ((ldr cc (Y d):Nat):Int)),(36,AI a1),(37,AI d),(38,Hs),(39,Hs),(50,Hs),(53,AI a1),(54,AI d),(55,BY),(56,BY),(67,BY),(73,a9 gl 0),(74,a9 gl 0),(75,a9 gl 0),(76,By RA n rcap),(77,AI d),(78,.pointer (some ao)),(79,By (ra (h.getD d 0)) cc (rc (h.getD d 0))),(80,a9 gl 0),(81,a9 gl 0),(82,a9 gl 0),(83,By RA n rcap),(84,AI d),(85,.pointer (some ao)),(86,By (ra (h.getD d 0)) cc (rc (h.getD d 0))),(87,AI ((ldr cc (Y d):Nat):Int)),(88,.pointer (some ag)),(89,.pointer (some (ag.add 0))),(90,BY),(91,a9 gl 0),(92,AI d),(94,AI d)]) (fun⟨ws,s⟩=>ws) (fun⟨ws,s⟩=>(UpS (LS n gl gs gr RA ra) w ws)∧(s≤d-a1)∧(Ldr lb n cc gl gs gr RA rcap ra rc ws (dN d (d-s) (dD cc d Y)))) (fun⟨ws,s⟩=>(d-a1)-s)
      (⟨fj,0⟩:a0×Nat) ⟨J,(by omega),kp.ldr⟩ G ⟨rfl,rfl,rfl,rfl,rfl,rfl,rfl,rfl,rfl,rfl,rfl,rfl,rfl,rfl,rfl,rfl,rfl,rfl,rfl,rfl,rfl,rfl,rfl,rfl,rfl,rfl,rfl,rfl,rfl,rfl,rfl,rfl,rfl,rfl,rfl,rfl,rfl,rfl,rfl,rfl,rfl,rfl,rfl,rfl,rfl,rfl,rfl,rfl,rfl,rfl,rfl,rfl,rfl,rfl,rfl,rfl,rfl,rfl,rfl,rfl,rfl,rfl,Ht⟩ ?_
     rintro⟨ws,s⟩ ⟨I,dc,ar⟩
     refine d4 [(0,a9 gl 0),(1,AI d),(4,Hs),(5,AI a1),(6,AI ((ldr cc (Y d):Nat):Int)),(7,AI ((ldr cc (Y d):Nat):Int)),(8,AI ((d-s:Nat):Int)),(9,a9 gl 0),(10,a9 gl 0),(11,a9 gl 0),(12,By RA n rcap),(13,AI d),(14,.pointer (some ac)),(15,By (ra (aa.getD d 0)) cc (rc (aa.getD d 0))),(16,AI ((ldr cc (Y d):Nat):Int)),(17,AI ((ldr cc (Y d):Nat):Int)),(18,a9 gl 0),(19,a9 gl 0),(20,a9 gl 0),(21,By RA n rcap),(22,AI d),(23,.pointer (some ac)),(24,By (ra (aa.getD d 0)) cc (rc (aa.getD d 0))),(25,AI cc),(26,Hs),(27,Hs),(28,AI ((ldr cc (Y d):Nat):Int)),(29,AI lz),(30,Hs),(31,Hs),(35,AI ((ldr cc (Y d):Nat):Int)),(36,AI a1),(37,AI d),(38,Hs),(39,Hs),(50,Hs),(53,AI a1),(54,AI d),(55,BY),(56,BY),(67,BY),(73,a9 gl 0),(74,a9 gl 0),(75,a9 gl 0),(76,By RA n rcap),(77,AI d),(78,.pointer (some ao)),(79,By (ra (h.getD d 0)) cc (rc (h.getD d 0))),(80,a9 gl 0),(81,a9 gl 0),(82,a9 gl 0),(83,By RA n rcap),(84,AI d),(85,.pointer (some ao)),(86,By (ra (h.getD d 0)) cc (rc (h.getD d 0))),(87,AI ((ldr cc (Y d):Nat):Int)),(88,.pointer (some ag)),(89,.pointer (some (ag.add 0))),(90,BY),(91,a9 gl 0),(92,AI d),(94,AI d)] ws G ⟨rfl,rfl,rfl,rfl,rfl,rfl,rfl,rfl,rfl,rfl,rfl,rfl,rfl,rfl,rfl,rfl,rfl,rfl,rfl,rfl,rfl,rfl,rfl,rfl,rfl,rfl,rfl,rfl,rfl,rfl,rfl,rfl,rfl,rfl,rfl,rfl,rfl,rfl,rfl,rfl,rfl,rfl,rfl,rfl,rfl,rfl,rfl,rfl,rfl,rfl,rfl,rfl,rfl,rfl,rfl,rfl,rfl,rfl,rfl,rfl,rfl,rfl,Ht⟩ ?_
     obtain⟨_,_,bv⟩:=(ar).op
     refine aH (aH ?_)
     by_cases kd:s<d-a1
     ·refine aL (mv 2 G (aN G G G true (nV (a:=d-s) (b:=a1) G G) (aE (bJ G (bA (aM (aH (bB (aL (mv 3 G (bC G G G (((d-s)-1:Nat):Int) (iY (a:=d-s) (b:=1) G G) (bR G G (vs:= [a9 gl 0,AI ((d-s:Nat):Int),AI (((d-s)-1:Nat):Int)]) (by kernel_rfl) (by decide) (qP bv.ldr (a7 hlb I.size) hcc (i:=d-s) (j:=d-s-1)) ?_))))))))))))
      rintro _ fo ⟨rfl,ir,ka⟩
      refine bL ?_
      have ue:=bv.ldr.no64
      have H:UpS (LS n gl gs gr RA ra) w fo:=I.trans ka
      obtain⟨_,_,ip⟩:=(ir).op
      refine aS (cC (aM (aL (mv 1 G (bC G G G (((d-s)-1:Nat):Int) (iY (a:=d-s) (b:=1) G G) (mv 1 G (aS (cB (⟨fo,s+1⟩:a0×Nat) ⟨H,(by omega),(ip.ldr.cong fun a b _ _=>(tF a b))⟩ (show (d-a1)-(s+1)<(d-a1)-s by omega) G ⟨rfl,rfl,rfl,rfl,rfl,rfl,rfl,rfl,rfl,rfl,rfl,rfl,rfl,rfl,rfl,rfl,rfl,rfl,rfl,rfl,rfl,rfl,rfl,rfl,rfl,rfl,rfl,rfl,rfl,rfl,rfl,rfl,rfl,rfl,rfl,rfl,rfl,rfl,rfl,rfl,rfl,rfl,rfl,rfl,rfl,rfl,rfl,rfl,rfl,rfl,rfl,rfl,rfl,rfl,rfl,rfl,rfl,rfl,rfl,rfl,rfl,rfl,Ht⟩))))))))
     ·refine aL (mv 2 G (aN G G G false (mM (a:=d-s) (b:=a1) G G) (aE (aY G (cM (cK (cT (cL (aM (aH ?_))))))))))
      have bw:=bv.ldr.cong (Y:=dN d a1 (dD cc d Y)) fun a b _ _=>by rw [show d-s=a1 by omega]
      obtain⟨_,_,dy⟩:=(bw).op
      refine aL (mv 2 G (bC G G G ((d+1:Nat):Int) (bW (a:=d) (b:=1) G G) (bR G G (vs:= [a9 gl 0,AI ((d+1:Nat):Int)]) (by kernel_rfl) (by decide) (qQ dy.ldr (a7 hlb I.size) hcc hn (m:=d+1) (az.sztY hcc hz hF au)) ?_)))
      rintro _ pb ⟨rfl,ke,jw⟩
      refine bL ?_
      have uk:=dy.ldr.no64
      have H:UpS (LS n gl gs gr RA ra) w pb:=I.trans jw
      obtain⟨_,_,kb⟩:=(ke).op
      refine aE (sr (mv 1 G (aE (bG (bF [BY] G ⟨rfl,Ht⟩ ?_)))))
      exact⟨by rw [(lE au).1];rfl,kb.ldr.cong (fun a b _ _=>by rw [(lE au).2]),H⟩
   ·have bu:decide (Y d (ldr cc (Y d))<0)=false:=decide_eq_false ba
    obtain⟨aj,cm,cg⟩:=(o.ho).rowAt (i:=d) (by omega)
    obtain⟨ai,_,_,_,_,cx,_,_,eg⟩:=(o.hc).at (o.per.lt d (by omega)) (show ldr cc (Y d)<cc by omega)
    have eg:=eg.cast (o.ent d (ldr cc (Y d)) (by omega) (by omega)).symm
    refine dP cF 18 [] [Is (a9 gl 0),Is (a9 gl 0),Is (a9 gl 0),Is (By RA n rcap),Is (AI d),Is (.pointer (some aj)),Is (By (ra (h.getD d 0)) cc (rc (h.getD d 0))),Is (a9 gl 0),Is (a9 gl 0),Is (a9 gl 0),Is (By RA n rcap),Is (AI d),Is (.pointer (some aj)),Is (By (ra (h.getD d 0)) cc (rc (h.getD d 0))),Is (AI ((ldr cc (Y d):Nat):Int)),Is (.pointer (some ai)),Is (.pointer (some (ai.add 0))),Is (Hs)] [[],[0],[1],[2],[],[3,4],[5],[],[7],[8],[9],[],[10,11],[12],[13],[6,14],[15],[16]] [[],[0],[0,1],[0,1,2],[],[0,1,2,3,4],[0,1,2,3,4,5],[],[7],[7,8],[7,8,9],[],[7,8,9,10,11],[7,8,9,10,11,12],[7,8,9,10,11,12,13],[0,1,2,3,4,5,6,7,8,9,10,11,12,13,14],[0,1,2,3,4,5,6,7,8,9,10,11,12,13,14,15],[0,1,2,3,4,5,6,7,8,9,10,11,12,13,14,15,16]] rfl
     (aD G G (aA G G ?_) (aD G G (aA G G ?_) (aD G G (aA G G ?_) (aD G G (aA G G ?_) (aD G G (aA G G ?_) (aD G G (aA G G ?_) (aD G G (aA G G ?_) (aD G G (aA G G ?_) (aD G G (aA G G ?_) (aD G G (aA G G ?_) (aD G G (aA G G ?_) (aD G G (aA G G ?_) (aD G G (aA G G ?_) (aD G G (aA G G ?_) (aD G G (aA G G ?_) (aD G G (aA G G ?_) (aD G G (aA G G ?_) (aD G G (aA G G ?_) dF)))))))))))))))))) ?_
    ·intro ri kt
     have H:UpS (LS n gl gs gr RA ra) w ri:=I.ext kt
     refine a8 (mv 1 G ?_)
     exact aC G aB rfl
    ·intro mf nt
     have H:UpS (LS n gl gs gr RA ra) w mf:=I.ext nt
     refine dk G G (a8 (pf gl 0 G ?_))
     exact aC G aB rfl
    ·intro ov on
     have H:UpS (LS n gl gs gr RA ra) w ov:=I.ext on
     refine dk G G (a8 (pf gl 0 G ?_))
     exact aC G aB rfl
    ·intro lm fh
     have H:UpS (LS n gl gs gr RA ra) w lm:=I.ext fh
     refine dk G G (a8 (aK G G (aQ cG (o.ext fh).bl G) ?_))
     exact aC G aB rfl
    ·intro mc mq
     have H:UpS (LS n gl gs gr RA ra) w mc:=I.ext mq
     refine a8 (mv 1 G ?_)
     exact aC G aB rfl
    ·intro nm qo
     have H:UpS (LS n gl gs gr RA ra) w nm:=I.ext qo
     refine dk G G (dk G G (a8 (aX G G G d9 cV d G aj cm ?_)))
     exact aC G aB rfl
    ·intro qh fe
     have H:UpS (LS n gl gs gr RA ra) w qh:=I.ext fe
     refine dk G G (a8 (aK G G (cP cD (fe.cell cg)) ?_))
     exact aC G aB rfl
    ·intro ta ru
     have H:UpS (LS n gl gs gr RA ra) w ta:=I.ext ru
     refine a8 (mv 1 G ?_)
     exact aC G aB rfl
    ·intro lw ph
     have H:UpS (LS n gl gs gr RA ra) w lw:=I.ext ph
     refine dk G G (a8 (pf gl 0 G ?_))
     exact aC G aB rfl
    ·intro mb ss
     have H:UpS (LS n gl gs gr RA ra) w mb:=I.ext ss
     refine dk G G (a8 (pf gl 0 G ?_))
     exact aC G aB rfl
    ·intro oi ib
     have H:UpS (LS n gl gs gr RA ra) w oi:=I.ext ib
     refine dk G G (a8 (aK G G (aQ cG (o.ext ib).bl G) ?_))
     exact aC G aB rfl
    ·intro kx lh
     have H:UpS (LS n gl gs gr RA ra) w kx:=I.ext lh
     refine a8 (mv 1 G ?_)
     exact aC G aB rfl
    ·intro qu su
     have H:UpS (LS n gl gs gr RA ra) w qu:=I.ext su
     refine dk G G (dk G G (a8 (aX G G G d9 cV d G aj cm ?_)))
     exact aC G aB rfl
    ·intro qj ge
     have H:UpS (LS n gl gs gr RA ra) w qj:=I.ext ge
     refine dk G G (a8 (aK G G (cP cD (ge.cell cg)) ?_))
     exact aC G aB rfl
    ·intro ro ij
     have H:UpS (LS n gl gs gr RA ra) w ro:=I.ext ij
     refine dk G G (a8 (bR G G (vs:= [By (ra (h.getD d 0)) cc (rc (h.getD d 0))]) (by kernel_rfl) (by decide) (kP (o.ext ij) hcc (i:=d)) ?_))
     rintro _ ox ⟨_,rfl,me,fg⟩
     refine bL ?_
     have J:UpS (LS n gl gs gr RA ra) w ox:=H.ext fg
     obtain rfl:=me
     exact aC G fg rfl
    ·intro ma nh
     have H:UpS (LS n gl gs gr RA ra) w ma:=I.ext nh
     refine dk G G (dk G G (a8 (aX G G G bM aG.size (ldr cc (Y d)) G ai cx ?_)))
     exact aC G aB rfl
    ·intro qp mj
     have H:UpS (LS n gl gs gr RA ra) w qp:=I.ext mj
     refine dk G G (a8 (pu (v:= .pointer (some (ai.add 0))) G ?_))
     exact aC G aB rfl
    ·intro rq fk
     have H:UpS (LS n gl gs gr RA ra) w rq:=I.ext fk
     refine dk G G (a8 (aK G G (cP fU ((o.ext fk).neg (i:=d) (j:=(ldr cc (Y d))) (by omega) (by omega) cx bu)) ?_))
     exact aC G aB rfl
    ·intro ic ia
     have H:UpS (LS n gl gs gr RA ra) w ic:=I.ext ia
     refine dk G G (dk G G (dk G G (dk G G (dk G G (dk G G (dk G G (dk G G (dk G G (dk G G (dk G G (dk G G (dk G G (dk G G ?_)))))))))))))
     refine dk G G (dk G G (dk G G (dk G G (a8 (aS (dA (aM (aY G (bA (aM (aH (aH ?_))))))))))))
     have bj:=(o.ext ia).ldr.cong (Y:=dD cc d Y) fun a b _ _=>by rw [BO ba]
     obtain⟨_,_,ko⟩:=(bj).op
     refine aL (mv 2 G (aE (bB ?_)))
     have cd:=ko.ldr.cong (Y:=dN d (d-0) (dD cc d Y)) fun a b _ _=>tE a b
     obtain⟨_,_,jo⟩:=(cd).op
     refine d6 (T:=a0×Nat) (fun⟨ws,s⟩=> [(0,a9 gl 0),(1,AI d),(4,Hs),(5,AI a1),(6,AI ((ldr cc (Y d):Nat):Int)),(7,AI ((ldr cc (Y d):Nat):Int)),(8,AI ((d-s:Nat):Int)),(9,a9 gl 0),(10,a9 gl 0),(11,a9 gl 0),(12,By RA n rcap),(13,AI d),(14,.pointer (some ac)),(15,By (ra (aa.getD d 0)) cc (rc (aa.getD d 0))),(16,AI ((ldr cc (Y d):Nat):Int)),(17,AI ((ldr cc (Y d):Nat):Int)),(18,a9 gl 0),(19,a9 gl 0),(20,a9 gl 0),(21,By RA n rcap),(22,AI d),(23,.pointer (some ac)),(24,By (ra (aa.getD d 0)) cc (rc (aa.getD d 0))),(25,AI cc),(26,Hs),(27,Hs),(28,AI ((ldr cc (Y d):Nat):Int)),(29,AI lz),(30,Hs),(31,Hs),(35,AI ((ldr cc (Y d):Nat):Int)),(36,AI a1),(37,AI d),(38,Hs),(39,Hs),(50,Hs),(53,AI a1),(54,AI d),(55,BY),(56,BY),(67,BY),(73,a9 gl 0),(74,a9 gl 0),(75,a9 gl 0),(76,By RA n rcap),(77,AI d),(78,.pointer (some aj)),(79,By (ra (h.getD d 0)) cc (rc (h.getD d 0))),(80,a9 gl 0),(81,a9 gl 0),(82,a9 gl 0),(83,By RA n rcap),(84,AI d),(85,.pointer (some aj)),(86,By (ra (h.getD d 0)) cc (rc (h.getD d 0))),(87,AI ((ldr cc (Y d):Nat):Int)),(88,.pointer (some ai)),(89,.pointer (some (ai.add 0))),(90,Hs),(94,AI d)]) (fun⟨ws,s⟩=>ws) (fun⟨ws,s⟩=>(UpS (LS n gl gs gr RA ra) w ws)∧(s≤d-a1)∧(Ldr lb n cc gl gs gr RA rcap ra rc ws (dN d (d-s) (dD cc d Y)))) (fun⟨ws,s⟩=>(d-a1)-s)
      (⟨ic,0⟩:a0×Nat) ⟨H,(by omega),jo.ldr⟩ G ⟨rfl,rfl,rfl,rfl,rfl,rfl,rfl,rfl,rfl,rfl,rfl,rfl,rfl,rfl,rfl,rfl,rfl,rfl,rfl,rfl,rfl,rfl,rfl,rfl,rfl,rfl,rfl,rfl,rfl,rfl,rfl,rfl,rfl,rfl,rfl,rfl,rfl,rfl,rfl,rfl,rfl,rfl,rfl,rfl,rfl,rfl,rfl,rfl,rfl,rfl,rfl,rfl,rfl,rfl,rfl,rfl,rfl,rfl,rfl,rfl,Ht⟩ ?_
     rintro⟨ws,s⟩ ⟨I,dc,ar⟩
     refine d4 [(0,a9 gl 0),(1,AI d),(4,Hs),(5,AI a1),(6,AI ((ldr cc (Y d):Nat):Int)),(7,AI ((ldr cc (Y d):Nat):Int)),(8,AI ((d-s:Nat):Int)),(9,a9 gl 0),(10,a9 gl 0),(11,a9 gl 0),(12,By RA n rcap),(13,AI d),(14,.pointer (some ac)),(15,By (ra (aa.getD d 0)) cc (rc (aa.getD d 0))),(16,AI ((ldr cc (Y d):Nat):Int)),(17,AI ((ldr cc (Y d):Nat):Int)),(18,a9 gl 0),(19,a9 gl 0),(20,a9 gl 0),(21,By RA n rcap),(22,AI d),(23,.pointer (some ac)),(24,By (ra (aa.getD d 0)) cc (rc (aa.getD d 0))),(25,AI cc),(26,Hs),(27,Hs),(28,AI ((ldr cc (Y d):Nat):Int)),(29,AI lz),(30,Hs),(31,Hs),(35,AI ((ldr cc (Y d):Nat):Int)),(36,AI a1),(37,AI d),(38,Hs),(39,Hs),(50,Hs),(53,AI a1),(54,AI d),(55,BY),(56,BY),(67,BY),(73,a9 gl 0),(74,a9 gl 0),(75,a9 gl 0),(76,By RA n rcap),(77,AI d),(78,.pointer (some aj)),(79,By (ra (h.getD d 0)) cc (rc (h.getD d 0))),(80,a9 gl 0),(81,a9 gl 0),(82,a9 gl 0),(83,By RA n rcap),(84,AI d),(85,.pointer (some aj)),(86,By (ra (h.getD d 0)) cc (rc (h.getD d 0))),(87,AI ((ldr cc (Y d):Nat):Int)),(88,.pointer (some ai)),(89,.pointer (some (ai.add 0))),(90,Hs),(94,AI d)] ws G ⟨rfl,rfl,rfl,rfl,rfl,rfl,rfl,rfl,rfl,rfl,rfl,rfl,rfl,rfl,rfl,rfl,rfl,rfl,rfl,rfl,rfl,rfl,rfl,rfl,rfl,rfl,rfl,rfl,rfl,rfl,rfl,rfl,rfl,rfl,rfl,rfl,rfl,rfl,rfl,rfl,rfl,rfl,rfl,rfl,rfl,rfl,rfl,rfl,rfl,rfl,rfl,rfl,rfl,rfl,rfl,rfl,rfl,rfl,rfl,rfl,Ht⟩ ?_
     obtain⟨_,_,bh⟩:=(ar).op
     refine aH (aH ?_)
     by_cases kd:s<d-a1
     ·refine aL (mv 2 G (aN G G G true (nV (a:=d-s) (b:=a1) G G) (aE (bJ G (bA (aM (aH (bB (aL (mv 3 G (bC G G G (((d-s)-1:Nat):Int) (iY (a:=d-s) (b:=1) G G) (bR G G (vs:= [a9 gl 0,AI ((d-s:Nat):Int),AI (((d-s)-1:Nat):Int)]) (by kernel_rfl) (by decide) (qP bh.ldr (a7 hlb I.size) hcc (i:=d-s) (j:=d-s-1)) ?_))))))))))))
      rintro _ ii ⟨rfl,io,jn⟩
      refine bL ?_
      have tv:=bh.ldr.no64
      have H:UpS (LS n gl gs gr RA ra) w ii:=I.trans jn
      obtain⟨_,_,ix⟩:=(io).op
      refine aS (cC (aM (aL (mv 1 G (bC G G G (((d-s)-1:Nat):Int) (iY (a:=d-s) (b:=1) G G) (mv 1 G (aS (cB (⟨ii,s+1⟩:a0×Nat) ⟨H,(by omega),(ix.ldr.cong fun a b _ _=>(tF a b))⟩ (show (d-a1)-(s+1)<(d-a1)-s by omega) G ⟨rfl,rfl,rfl,rfl,rfl,rfl,rfl,rfl,rfl,rfl,rfl,rfl,rfl,rfl,rfl,rfl,rfl,rfl,rfl,rfl,rfl,rfl,rfl,rfl,rfl,rfl,rfl,rfl,rfl,rfl,rfl,rfl,rfl,rfl,rfl,rfl,rfl,rfl,rfl,rfl,rfl,rfl,rfl,rfl,rfl,rfl,rfl,rfl,rfl,rfl,rfl,rfl,rfl,rfl,rfl,rfl,rfl,rfl,rfl,rfl,Ht⟩))))))))
     ·refine aL (mv 2 G (aN G G G false (mM (a:=d-s) (b:=a1) G G) (aE (aY G (cM (cK (cT (cL (aM (aH ?_))))))))))
      have bw:=bh.ldr.cong (Y:=dN d a1 (dD cc d Y)) fun a b _ _=>by rw [show d-s=a1 by omega]
      obtain⟨_,_,dn⟩:=(bw).op
      refine aL (mv 2 G (bC G G G ((d+1:Nat):Int) (bW (a:=d) (b:=1) G G) (bR G G (vs:= [a9 gl 0,AI ((d+1:Nat):Int)]) (by kernel_rfl) (by decide) (qQ dn.ldr (a7 hlb I.size) hcc hn (m:=d+1) (az.sztY hcc hz hF au)) ?_)))
      rintro _ px ⟨rfl,kj,jt⟩
      refine bL ?_
      have vq:=dn.ldr.no64
      have H:UpS (LS n gl gs gr RA ra) w px:=I.trans jt
      obtain⟨_,_,jh⟩:=(kj).op
      refine aE (sr (mv 1 G (aE (bG (bF [BY] G ⟨rfl,Ht⟩ ?_)))))
      exact⟨by rw [(lE au).1];rfl,jh.ldr.cong (fun a b _ _=>by rw [(lE au).2]),H⟩
structure Szr (A:Mx)(n c B:Nat):Prop where
 ent:∀i b,i<n→b<c→ln (A i b)≤B
 red:∀d e Z,Rin A n c d e Z→∀i b,i<d→b<c→ln (Z i b)≤B
section
variable {A Z:Mx}{n c d e B:Nat}
theorem Szr.put (h:Szr A n c B)(hR:Rin A n c d e Z)(hde:d<e):∀i b,i≤d→b<c→ln (Z i b)≤B:=fun i b hi hb=>by
 by_cases H:i=d
 ·have o:=hR.un 0 (by omega)
  have I:=hR.eN
  rw [eA,eA] at o
  rw [H,o]
  exact h.ent _ b (by omega) hb
 ·exact h.red d e Z hR i b (by omega) hb
theorem Szr.fin (h:Szr A n c B)(hR:Rin A n c d e Z)(hde:d<e):∀i b,i<pN c d Z→b<c→ln (eI dO c d Z i b)≤B:=fun i b hi hb=>by
 unfold pN at hi
 by_cases o:iR dO c d Z=true
 ·rw [if_pos o] at hi
  exact h.red _ _ _ (hR.yes mT hde o) i b hi hb
 ·rw [if_neg o] at hi
  have H:=h.red _ _ _ (hR.no mT hde (by simpa using o)) i b hi hb
  unfold i6 at H
  rw [if_neg (by omega),if_neg (by omega)] at H
  exact H
theorem KI (i b:Nat):i6 d d Z i b=Z i b:=by
 unfold i6
 by_cases e:i=d
 ·rw [if_pos e,e]
 ·rw [if_neg e,if_neg (by omega)]
theorem KJ (hs:d≤s)(i b:Nat):i6 d (s+1) Z i b=lB s (s+1) (i6 d s Z) i b:=by
 unfold lB i6
 by_cases h:i=s
 ·subst h
  rw [if_neg (by omega),if_pos (by omega),if_pos rfl,if_neg (by omega),if_neg (by omega)]
 ·by_cases o:i=s+1
  ·subst o
   rw [if_pos rfl,if_neg h,if_pos rfl,if_pos rfl]
  ·rw [if_neg o,if_neg h,if_neg o,if_neg h]
   by_cases H:d≤i∧i<s
   ·rw [if_pos H,if_pos (by omega)]
   ·rw [if_neg H,if_neg (by omega)]
end
theorem O7 {ra:Nat→Option a6}{rc:Nat→Nat}(hL:Ldr lb n cc gl gs gr RA rcap ra rc w Z)(hlb:lb≤w.heap.size)(hcc:cc≤64)(hn:n≤64)(hS:Szr Z n cc B)(hB34:B+1≤17179869184)(hK:200*B+400≤68719476736):aR aJ 52 #[a9 gl 0] w (fun e w'=>∃(d:Nat) (Y:Mx),e= .returned (AI d)∧Rin Z n cc d d Y∧Ldr lb n cc gl gs gr RA rcap ra rc w' Y∧UpS (LS n gl gs gr RA ra) w w'):=by
 refine bQ Tryz.func52 G (n:=33) G (bq G) (args:= [a9 gl 0]) ?_
 have bz:∀k,LS n gl gs gr RA ra k→k<w.heap.size:=fun k hk=>(hL.lt hk).2
 obtain⟨_,_,ac⟩:=(hL).op
 have bo:=ac.ho.rv.le
 refine bH [(0,a9 gl 0)] ⟨rfl,Ht⟩ (sr (mv 1 G (aE (aH (bH [(0,a9 gl 0),(2,AI 0)] ⟨rfl,rfl,Ht⟩ ?_)))))
 obtain⟨v2,hv,e3⟩:∃v,v=w.drew∧Ext w v:=⟨_,rfl,(Ext.refl _).drew⟩
 have h:UpS (LS n gl gs gr RA ra) w v2:=(UpS.refl (LS n gl gs gr RA ra) w).ext e3
 refine lK cF (w:=v2) [a9 gl 0,a9 gl 0,a9 gl 0,By RA n rcap,AI n,I0,AI n] [v2] [] [[],[0],[1],[2],[3],[],[4]] [[],[0],[0,1],[0,1,2],[0,1,2,3],[],[0,1,2,3,4,5]] [(0,0),(1,0),(2,0),(3,0),(4,0),(5,0),(6,0)] G hv ?_ ?_
 ·refine aW _ G G G G G (dJ G) (aW _ G G G G G (eH G) (aW _ G G G G G (eH G) (aW _ G G G G G (cN G (aQ cG (ac.ext e3).bl G)) (aW _ G G G G G (eH G) (aW _ G G G G G (wM G) (aW _ G G G G G (wM G) ?_))))))
  exact lJ
 clear hv
 refine kA [(0,a9 gl 0),(2,AI 0),(6,a9 gl 0),(7,a9 gl 0),(8,a9 gl 0),(9,By RA n rcap),(10,AI n),(3,AI 0),(4,AI n)] ⟨rfl,rfl,rfl,rfl,rfl,rfl,rfl,rfl,rfl,Ht⟩ (aM (aH (bB ?_)))
 refine d6 (T:=a0×Nat×Nat×Mx) (fun⟨wr,d,e,Y⟩=> [(0,a9 gl 0),(2,AI 0),(3,AI d),(4,AI e),(6,a9 gl 0),(7,a9 gl 0),(8,a9 gl 0),(9,By RA n rcap),(10,AI n)]) (fun⟨wr,d,e,Y⟩=>wr) (fun⟨wr,d,e,Y⟩=>(UpS (LS n gl gs gr RA ra) w wr)∧(d≤n)∧(Ldr lb n cc gl gs gr RA rcap ra rc wr Y)∧(Rin Z n cc d e Y)) (fun⟨wr,d,e,Y⟩=>e-d)
  (⟨v2,0,n,Z⟩:a0×Nat×Nat×Mx) ⟨h,(by omega),(ac.ext e3).ldr,(Rin.start Z n cc)⟩ G ⟨rfl,rfl,rfl,rfl,rfl,rfl,rfl,rfl,rfl,Ht⟩ ?_
 rintro⟨wr,d,e,Y⟩ ⟨h,_,ae,hR⟩
 refine d4 [(0,a9 gl 0),(2,AI 0),(3,AI d),(4,AI e),(6,a9 gl 0),(7,a9 gl 0),(8,a9 gl 0),(9,By RA n rcap),(10,AI n)] wr G ⟨rfl,rfl,rfl,rfl,rfl,rfl,rfl,rfl,rfl,Ht⟩ ?_
 obtain⟨_,_,aa⟩:=(ae).op
 refine aH (aH ?_)
 have ce:=hR.eN
 by_cases I:d<e
 ·refine aL (mv 2 G (aN G G G true (dB (a:=d) (b:=e) G G) (aE (bJ G (bA (aM (bB (aH ?_))))))))
  by_cases H:iR dO cc d Y=true
  ·refine aL (mv 2 G ?_)
   have o:=E5 aa.ldr (a7 hlb h.size) hcc hn (d:=d) (by omega) hR.hf.toEch (hS.put hR I) (hS.fin hR I) hB34 hK
   rw [H] at o
   refine bR G G (vs:= [a9 gl 0,AI d]) (by kernel_rfl) (by decide) o ?_
   rintro _ v5 ⟨rfl,bg,bc⟩
   refine bL ?_
   have cf:=aa.ldr.no64
   have U:UpS (LS n gl gs gr RA ra) w v5:=h.trans bc
   obtain⟨_,_,az⟩:=(bg).op
   refine aE (bJ G (aL (mv 1 G (bC G G G ((d+1:Nat):Int) (bW (a:=d) (b:=1) G G) (mv 1 G (aS (cC (cB (⟨v5,d+1,e,eI dO cc d Y⟩:a0×Nat×Nat×Mx) ⟨U,(by omega),az.ldr,(hR.yes mT I H)⟩ (show e-(d+1)<e-d by omega) G ⟨rfl,rfl,rfl,rfl,rfl,rfl,rfl,rfl,rfl,Ht⟩))))))))
  ·have H:iR dO cc d Y=false:=by simpa using H
   refine aL (mv 2 G ?_)
   have o:=E5 aa.ldr (a7 hlb h.size) hcc hn (d:=d) (by omega) hR.hf.toEch (hS.put hR I) (hS.fin hR I) hB34 hK
   rw [H] at o
   refine bR G G (vs:= [a9 gl 0,AI d]) (by kernel_rfl) (by decide) o ?_
   rintro _ ai ⟨rfl,aq,ao⟩
   refine bL ?_
   have bj:=aa.ldr.no64
   have U:UpS (LS n gl gs gr RA ra) w ai:=h.trans ao
   obtain⟨_,_,ar⟩:=(aq).op
   refine aE (aY G (sr (mv 1 G (bC G G G ((e-1:Nat):Int) (iY (a:=e) (b:=1) G G) (mv 1 G (aE (sr (mv 2 G (aE (bB ?_))))))))))
   have ba:=ar.ldr.cong (Y:=i6 d d (eI dO cc d Y)) fun a b _ _=>KI a b
   obtain⟨_,_,au⟩:=(ba).op
   refine d6 (T:=a0×Nat) (fun⟨wi,i⟩=> [(0,a9 gl 0),(2,AI 0),(3,AI d),(4,AI ((e-1:Nat):Int)),(5,AI i),(6,a9 gl 0),(7,a9 gl 0),(8,a9 gl 0),(9,By RA n rcap),(10,AI n),(11,AI d),(12,AI e),(13,BY),(14,a9 gl 0),(15,AI d),(16,Hs),(19,AI e),(20,AI ((e-1:Nat):Int)),(21,AI d)]) (fun⟨wi,i⟩=>wi) (fun⟨wi,i⟩=>(UpS (LS n gl gs gr RA ra) w wi)∧(i≤e-1)∧(Ldr lb n cc gl gs gr RA rcap ra rc wi (i6 d i (eI dO cc d Y)))∧(d≤i)) (fun⟨wi,i⟩=>(e-1)-i)
    (⟨ai,d⟩:a0×Nat) ⟨U,(by omega),au.ldr,(aI d)⟩ G ⟨rfl,rfl,rfl,rfl,rfl,rfl,rfl,rfl,rfl,rfl,rfl,rfl,rfl,rfl,rfl,rfl,rfl,rfl,rfl,Ht⟩ ?_
   rintro⟨wi,i⟩ ⟨h,_,ag,bh⟩
   refine d4 [(0,a9 gl 0),(2,AI 0),(3,AI d),(4,AI ((e-1:Nat):Int)),(5,AI i),(6,a9 gl 0),(7,a9 gl 0),(8,a9 gl 0),(9,By RA n rcap),(10,AI n),(11,AI d),(12,AI e),(13,BY),(14,a9 gl 0),(15,AI d),(16,Hs),(19,AI e),(20,AI ((e-1:Nat):Int)),(21,AI d)] wi G ⟨rfl,rfl,rfl,rfl,rfl,rfl,rfl,rfl,rfl,rfl,rfl,rfl,rfl,rfl,rfl,rfl,rfl,rfl,rfl,Ht⟩ ?_
   obtain⟨_,_,J⟩:=(ag).op
   refine aH (aH ?_)
   by_cases cg:i<e-1
   ·refine aL (mv 2 G (aN G G G true (dB (a:=i) (b:=e-1) G G) (aE (bJ G (bA (aM (aH (bB (aL (mv 3 G (bC G G G ((i+1:Nat):Int) (bW (a:=i) (b:=1) G G) (bR G G (vs:= [a9 gl 0,AI i,AI ((i+1:Nat):Int)]) (by kernel_rfl) (by decide) (qP J.ldr (a7 hlb h.size) hcc (i:=i) (j:=i+1)) ?_))))))))))))
    rintro _ av ⟨rfl,ah,ak⟩
    refine bL ?_
    have bu:=J.ldr.no64
    have U:UpS (LS n gl gs gr RA ra) w av:=h.trans ak
    obtain⟨_,_,aj⟩:=(ah).op
    refine aS (cC (aM (aL (mv 1 G (bC G G G ((i+1:Nat):Int) (bW (a:=i) (b:=1) G G) (mv 1 G (aS (cB (⟨av,i+1⟩:a0×Nat) ⟨U,(by omega),(aj.ldr.cong fun a b _ _=>(KJ bh a b)),(by omega)⟩ (show (e-1)-(i+1)<(e-1)-i by omega) G ⟨rfl,rfl,rfl,rfl,rfl,rfl,rfl,rfl,rfl,rfl,rfl,rfl,rfl,rfl,rfl,rfl,rfl,rfl,rfl,Ht⟩))))))))
   ·refine aL (mv 2 G (aN G G G false (dK (a:=i) (b:=e-1) G G) (aE (aY G (cM (cK (cT (cL (cC (cB (⟨wi,d,e-1,i6 d (e-1) (eI dO cc d Y)⟩:a0×Nat×Nat×Mx) ⟨h,(by omega),(J.ldr.cong fun a b _ _=>by rw [show i=e-1 by omega]),(hR.no mT I H)⟩ (show e-1-d<e-d by omega) G ⟨rfl,rfl,rfl,rfl,rfl,rfl,rfl,rfl,rfl,Ht⟩))))))))))
 ·refine aL (mv 2 G (aN G G G false (dK (a:=d) (b:=e) G G) (aE (aY G (cM (cK (cT (cL (aM (sr (mv 2 G (aE (bG ?_)))))))))))))
  refine bF [AI d] G ⟨rfl,Ht⟩ ?_
  exact⟨d,Y,rfl,(show e=d by have:=hR.de;omega)▸hR,aa.ldr,h⟩
theorem nK (h:x∣y)(hy:y≠0)(hl:ln y≤K):ln x≤K:=by
 refine a7 (fJ ?_) hl
 exact Nat.le_of_dvd (by omega) (Int.natAbs_dvd_natAbs.2 h)
section
variable {A Z:Mx}{n c d e:Nat}
theorem Rin.sizes (hn:n≤64)(hA:∀i b,i<n→b<c→ln (A i b)≤1048576)(h:Rin A n c d e Z):∀i b,i<d→b<c→ln (Z i b)≤136323396:=by
 obtain⟨is,hi,hq,hs⟩:=h.both
 have hd:d≤64:=by have:=h.de;have:=h.eN;omega
 have o:=h.hf.toEch
 have J:=o.mnr hq
 have hB:∀k b,k<d→b<c→ln (A (is k) b)≤1048576:=fun k b hk hb=>hA _ b (hi k hk) hb
 have hD:ln (mnr c d Z (fun k=>A (is k)))≤68161666:=by
  refine a7 (mI (K:=1048576) d _ fun i j hi' hj=>hB i _ hi' (o.lt j hj)) ?_
  have:=fV hd (show 1048576+d≤1048640 by omega)
  omega
 have U:∀l,l<d→ln (Z l (ldr c (Z l)))≤68161666:=fun l hl=>nK (o.dvd hs hl) J hD
 have ab:∀i l,i<d→l<d→ln (Z i (ldr c (Z l)))≤68161666:=fun i l hi' hl=>by
  rcases Nat.lt_trichotomy i l with H | H | H
  ·obtain⟨_,_⟩:=h.hf.red i l H hl
   exact a7 (fJ (by omega)) (U l hl)
  ·subst H;exact U i hi'
  ·rw [o.low H hi' (aI _)];exact bX _
 intro i b aa hb
 have I:=IG (P:=fun l=>ldr c (Z l)) (fun l hl=>o.lt l hl) hb (hq i aa)
 have hz:∀l,l<d→ln (oD d (fun k=>A (is k)) (fun l=>ldr c (Z l)) b l)≤68161666:=fun l hl=>by
  unfold oD
  refine a7 (mI (K:=1048576) (d+1) _ fun r s hr hs'=>?_) ?_
  ·simp only
   by_cases H:r<d
   ·rw [if_pos H]
    refine hB r _ H ?_
    split
    ·exact o.lt s (by assumption)
    ·exact hb
   ·rw [if_neg H]
    split
    ·exact a7 (qJ (by decide) (by decide)) (by decide)
    ·exact bX _
  ·have:=fV (show d+1≤65 by omega) (show 1048576+(d+1)≤1048641 by omega)
   omega
 have hS:ln (mnr c d Z (fun k=>A (is k))*Z i b)≤136323396:=by
  show ln (dt d (fun i j=>A (is i) (ldr c (Z j)))*Z i b)≤_
  rw [I,gL]
  refine a7 (D8 (K:=136323332) fun l hl=>a7 (eX (hz l hl) (ab i l aa hl)) (by decide)) (by omega)
 by_cases h0:Z i b=0
 ·rw [h0];exact bX _
 ·exact nK ⟨_,(Int.mul_comm _ _)⟩ (Int.mul_ne_zero J h0) hS
theorem B7 (hn:n≤64)(hA:∀i b,i<n→b<c→ln (A i b)≤1048576):Szr A n c 136323396:=
 ⟨fun i b hi hb=>a7 (hA i b hi hb) (by decide),fun d e Z h=>h.sizes hn hA⟩
end
theorem DD:∀(n:Nat) (f:Nat→Nat),(∀i,i<n→f i<n)→(∀i j,i<n→j<n→f i=f j→i=j)→∀r,r<n→∃i,i<n∧f i=r
 | 0,_,_,_,r,hr=>absurd hr (Nat.not_lt_zero r)
 | n+1,f,h1,h2,r,hr=>by
  by_cases e0:r=f n
  ·exact⟨n,Nat.lt_succ_self n,e0.symm⟩
  have hm:=h1 n (Nat.lt_succ_self n)
  have ih:=DD n (fun i=>if f i=n then f n else f i) (fun i hi=>by
   by_cases e:f i=n
   ·rw [if_pos e]
    have:f n≠n:=fun h=>by have:=h2 i n (by omega) (by omega) (by omega);omega
    omega
   ·rw [if_neg e];have:=h1 i (by omega);omega) (fun i j hi hj e=>by
   by_cases o:f i=n
   ·by_cases h:f j=n
    ·exact h2 i j (by omega) (by omega) (by omega)
    ·rw [if_pos o,if_neg h] at e
     have:=h2 n j (by omega) (by omega) e;omega
   ·by_cases h:f j=n
    ·rw [if_neg o,if_pos h] at e
     have:=h2 i n (by omega) (by omega) e;omega
    ·rw [if_neg o,if_neg h] at e
     exact h2 i j (by omega) (by omega) e)
  by_cases o:r=n
  ·obtain⟨i,hi,e⟩:=ih (f n) (by omega)
   by_cases h:f i=n
   ·exact⟨i,by omega,by omega⟩
   ·rw [if_neg h] at e
    have:=h2 i n (by omega) (by omega) e;omega
  ·obtain⟨i,hi,e⟩:=ih r (by omega)
   by_cases h:f i=n
   ·rw [if_pos h] at e;exact absurd e.symm e0
   ·rw [if_neg h] at e;exact⟨i,by omega,e⟩
theorem Per.onto (h:Per n ps)(hr:r<n):∃i,i<n∧ps.getD i 0=r:=DD n (fun i=>ps.getD i 0) h.lt h.inj r hr
section
variable {lb N c gl gs gr:Nat}{RA:Option a6}{rcap:Nat}{ra:Nat→Option a6}{rc:Nat→Nat}{w w':a0}{ps:List Nat}{Y Z:Mx}
theorem Rcs.wide (h:Rcs K lb n m ra rc w Z)(hK:K≤K'):Rcs K' lb n m ra rc w Z:=
 ⟨fun r hr=>by obtain⟨zs,o,H⟩:=h.row r hr;exact⟨zs,o.mono hK (aI _) (aI _),H⟩,h.dis⟩
theorem Rcs.tight (h:Rcs K lb n m ra rc w Z)(hl:∀r j,r<n→j<m→ln (Z r j)≤K'):Rcs K' lb n m ra rc w Z:=
 ⟨fun r hr=>by
  obtain⟨zs,⟨es,J,I,U,o⟩,H⟩:=h.row r hr
  exact⟨zs,⟨es,J,I,U,fun i hi=>⟨by rw [(o i hi).2.zr.len,H i hi];exact hl r i hr hi,(o i hi).2⟩⟩,H⟩,h.dis⟩
theorem Ldr.of (hL:Lns lb N c RA rcap ra rc ps Y w)(bl:Bk w gl 99 [By RA N rcap,By (some ⟨gs,0,none⟩) 1 1])(bs:Bk w gs 112 [qU gr,qT gr,qW gr,qV gr])(br:Bk w gr 54 [By RA N rcap])(h:lb≤gl∧lb≤gs∧lb≤gr):Ldr lb N c gl gs gr RA rcap ra rc w (pr Y ps):=
 ⟨bl,bs,br,⟨ps,Y,hL.R,hL.C.wide (by decide),hL.per,fun i j _ _=>rfl⟩,h⟩
theorem Ldr.lns (h:Ldr lb N c gl gs gr RA rcap ra rc w Z)(hB:∀i j,i<N→j<c→ln (Z i j)≤17179869184):∃ps Y,Lns lb N c RA rcap ra rc ps Y w∧∀i j,i<N→j<c→pr Y ps i j=Z i j:=by
 obtain⟨ps,Y,h⟩:=h.op
 refine⟨ps,Y,⟨h.ho,h.hc.tight fun r j hr hj=>?_,h.per⟩,fun i j hi hj=>(h.ent i j hi hj).symm⟩
 obtain⟨i,hi,e⟩:=h.per.onto hr
 rw [←e,←h.ent i j hi hj]
 exact hB i j hi hj
end
theorem O3:aR aJ 66 #[By RA n rcap] w (fun e w'=>∃gr,e= .returned (.agg #[qU gr,qT gr,qW gr,qV gr])∧w.heap.size≤gr∧Bk w' gr 54 [By RA n rcap]∧Ext w w'):=by
 refine bQ Tryz.func66 G (n:=8) G (bq G) (args:= [By RA n rcap]) (bH [(0,By RA n rcap)] ⟨rfl,Ht⟩ (sr (bx [By RA n rcap] aB G G G fun h _ I ab _ J=>(dG [.nilFunc,.nilFunc,.nilFunc,.nilFunc] J I.lt (fun _=>by kernel_rfl) G fun _ _ ac o _ e8 aa=>(aE (sr (pu (v:= .func (.func 83) #[] #[a9 h 0]) G (pu (v:= .func (.func 84) #[] #[a9 h 0]) G (pu (v:= .func (.func 85) #[] #[a9 h 0]) G (pu (v:= .func (.func 87) #[] #[a9 h 0]) G (pu (v:= .agg #[.func (.func 83) #[] #[a9 h 0],.func (.func 84) #[] #[a9 h 0],.func (.func 85) #[] #[a9 h 0],.func (.func 87) #[] #[a9 h 0]]) G (so iK ac [.func (.func 83) #[] #[a9 h 0],.func (.func 84) #[] #[a9 h 0],.func (.func 85) #[] #[a9 h 0],.func (.func 87) #[] #[a9 h 0]] aa o G G G G fun _ H ae U=>(aS ?_)))))))))))))
 refine aM (bG (bF [.agg #[.func (.func 83) #[] #[a9 h 0],.func (.func 84) #[] #[a9 h 0],.func (.func 85) #[] #[a9 h 0],.func (.func 87) #[] #[a9 h 0]]] G ⟨⟨_,rfl,bY iK H [.func (.func 83) #[] #[a9 h 0],.func (.func 84) #[] #[a9 h 0],.func (.func 85) #[] #[a9 h 0],.func (.func 87) #[] #[a9 h 0]] G (bq G) rfl⟩,Ht⟩ ?_))
 exact⟨h,rfl,ab,((I.ext e8).vN ae),U⟩
theorem O2:aR aJ 51 #[By RA n rcap] w (fun e w'=>∃gl gs gr,e= .returned (a9 gl 0)∧(w.heap.size≤gl∧w.heap.size≤gs∧w.heap.size≤gr)∧Bk w' gl 99 [By RA n rcap,By (some ⟨gs,0,none⟩) 1 1]∧Bk w' gs 112 [qU gr,qT gr,qW gr,qV gr]∧Bk w' gr 54 [By RA n rcap]∧Ext w w'):=by
 refine bQ Tryz.func51 G (n:=14) G (bq G) (args:= [By RA n rcap]) (bH [(0,By RA n rcap)] ⟨rfl,Ht⟩ (sr (mv 1 G (aE (sr (mv 1 G (pu (v:= .agg #[By RA n rcap,S0]) G (bx [By RA n rcap,S0] aB G G G fun g1 _ aj ai _ ac=>(mv 1 G (aE (sr (mv 2 G (bR G G (vs:= [By RA n rcap]) (by kernel_rfl) (by decide) O3 ?_)))))))))))))
 rintro _ _ ⟨gr,rfl,ak,ah,e9⟩
 refine bL ?_
 have av:g1<gr:=cJ aj.lt ak
 have ab:w.heap.size≤gr:=a7 ac.size ak
 have ae:=ac.trans e9
 refine jX G G (k:=1) (e:=112) [.func (.func 83) #[] #[a9 gr 0],.func (.func 84) #[] #[a9 gr 0],.func (.func 85) #[] #[a9 gr 0],.func (.func 87) #[] #[a9 gr 0]] (fun _=>by kernel_rfl) fun h _ nb=>?_
 have ag:=nb.bk
 have U:w.heap.size≤h:=by rw [←nb.at_];exact ae.size
 have au:gr<h:=by rw [←nb.at_];exact ah.lt
 have o:=nb.ext
 clear nb
 have aq:=ae.trans o
 refine pf g1 0 G (pf g1 1 G ?_)
 have J:=(aj.ext (e9.t o))
 refine jC G G G I5 G J (bq G) G [By RA n rcap,By (some ⟨h,0,none⟩) 1 1] G fun _ I H _=>?_
 have ao:=H.ext aq ai
 refine aE (sr (mv 2 G (aE (bG (bF [a9 g1 0] G ⟨rfl,Ht⟩ ?_)))))
 exact⟨g1,h,gr,rfl,⟨ai,U,ab⟩,I,(ag.vN H),((ah.ext o).vN H),ao⟩
theorem O8 {a:a0}{ra:Nat→Option a6}{rc:Nat→Nat}(hL:Lns lb n cc RA rcap ra rc ps U w)(hX:∀i j,i<n→j<cc→X i j=pr U ps i j)(ea:Ext a w)(hab:a.heap.size≤lb)(hlb:lb≤w.heap.size)(hcc:cc≤64)(hn:n≤64)(hS:Szr X n cc B)(hB34:B+1≤17179869184)(hK:200*B+400≤68719476736):aR aJ 30 #[By RA n rcap] w (fun e w'=>∃(d:Nat) (Y:Mx) (gl gs gr:Nat),e= .returned (.tuple #[By RA n rcap,AI d])∧Rin X n cc d d Y∧Ldr lb n cc gl gs gr RA rcap ra rc w' Y∧Ext a w'):=by
 refine bQ Tryz.func30 G (n:=15) G (bq G) (args:= [By RA n rcap]) (bH [(0,By RA n rcap)] ⟨rfl,Ht⟩ (sr (mv 2 G (aE (sr (mv 1 G (bR G G (vs:= [By RA n rcap]) (by kernel_rfl) (by decide) O2 ?_)))))))
 rintro _ v1 ⟨gl,gs,gr,rfl,⟨_,_,_⟩,b1,b2,b3,J⟩
 refine bL ?_
 have H:Ext a v1:=ea.trans J
 have aa:=Ldr.of (hL.ext J) b1 b2 b3 ⟨by omega,by omega,by omega⟩
 have h:=aa.cong (Y:=X) hX
 refine mv 1 G (aE (sr (mv 1 G (bR G G (vs:= [a9 gl 0]) (by kernel_rfl) (by decide) (O7 h (a7 hlb J.size) hcc hn hS hB34 hK) ?_))))
 rintro _ v2 ⟨d,Y,rfl,hR,o,u2⟩
 refine bL ?_
 have I:Ext a v2:=u2.toExt H fun k hk=>a7 hab (h.lt hk).1
 refine mv 1 G (aE (sr (mv 1 G (pf gl 0 G (pf gl 0 G (aK G G (aQ cG o.bl G) (mv 3 G (aE (bG (bF [By RA n rcap,AI d] G ⟨rfl,rfl,Ht⟩ ?_))))))))))
 exact⟨d,Y,gl,gs,gr,rfl,hR,o,I⟩
theorem Rin.entB (h:Rin A n c d d Z)(hS:Szr A n c B)(hi:i<n)(hj:j<c):ln (Z i j)≤B:=by
 rcases eB i d with e | e
 ·exact hS.red d d Z h i j e hj
 ·rw [h.ze i e hi j hj];exact bX _
theorem xZ (hb:b≤w.heap.size)(hlb:lb≤w.heap.size)(hxa:ZF w Aa na capa 17179869184 xs)(hna:na=n*cc)(hn:n≤64)(hcc:cc≤64)(hX:En n cc X xs)(hS:Szr X n cc B)(hB34:B+1≤17179869184)(hK:200*B+400≤68719476736):aR aJ 9 #[.agg #[AI n,AI cc,By Aa na capa]] w (Gv w (T2 (MQ ((n:Nat):Int) ((cc:Nat):Int) (LQ none 17179869184 b lb (n*cc) (fun zs=>∃d Y,Rin X n cc d d Y∧En n cc Y zs))) (Is (AI 0)))):=by
 have co:=hxa
 obtain⟨msa,bj,bz⟩:=hxa
 have cz:=iJ hn hcc
 refine bQ Tryz.func9 G (n:=23) G (bq G) (args:= [.agg #[AI n,AI cc,By Aa na capa]]) (bH [(0,.agg #[AI n,AI cc,By Aa na capa])] ⟨rfl,Ht⟩ (sr (bx [AI n,AI cc,By Aa na capa] aB G G G fun g1 _ U _ _ bo=>(dG [I0,I0,S0] bo U.lt (fun _=>by kernel_rfl) G fun g6 _ av ak _ e8 bh=>(mv 1 G (aE (aH (sr (lo bS (U.ext e8) [AI n,AI cc,By Aa na capa] G G G (cl (vs:= [.agg #[AI n,AI cc,By Aa na capa]]) bh (xY (sU hn hcc hna)) G (by kernel_rfl) fun _ ah cd I aa=>?_))))))))))
 obtain rfl:=cd
 refine mv 1 G (aE (sr (mv 1 G (aN G G G false (by decide) (aE (aY G (bA (aM (sr (lo bS (U.ext (e8.t I)) [AI n,AI cc,By Aa na capa] G G G ?_))))))))))
 obtain⟨aq,o⟩:∃l,l=ah.heap.size:=⟨_,rfl⟩
 have cj:w.heap.size≤aq:=by rw [o];exact aa.size
 have bu:aq≤ah.heap.size:=by rw [o];exact aI _
 refine bR G G (vs:= [.agg #[AI n,AI cc,By Aa na capa]]) (by kernel_rfl) (by decide) (OA ((show ZF w _ _ _ _ _ from⟨msa,bj,bz⟩).ext aa) hn hcc hna hX (by decide)) ?_
 rintro _ v_l ⟨_,rfl,⟨RA,rcap,ra,rc,rfl,_,au⟩,e_l⟩
 refine bL ?_
 rw [←o] at au
 have cx:=aa.trans e_l
 refine bR G G (vs:= [By RA n rcap]) (by kernel_rfl) (by decide) (O8 au (X:=X) (fun i j hi hj=>(JR X i j hi).symm) (a:=ah) e_l (Nat.le_of_eq o.symm) (a7 bu e_l.size) hcc hn hS hB34 hK) ?_
 rintro _ v_r ⟨d,Y,gl,gs,gr,rfl,hR,bv,e_r⟩
 refine bL ?_
 have ab:Ext w v_r:=aa.trans e_r
 have cm:=ab
 obtain⟨_,_,bg,ar⟩:=bv.lns (fun i j hi hj=>a7 (hR.entB hS hi hj) (by omega))
 refine mv 1 G (pu (v:= By RA n rcap) G (pu (v:= AI d) G (mv 2 G (aE (sr (mv 1 G (pf g1 1 G (aK G G (aQ bV (U.ext (e8.t (I.t e_r))) G) ?_))))))))
 obtain⟨_,ag,_,aj,_,_⟩:∃lb,lb≤v_r.heap.size∧v_r.heap.size≤lb∧w.heap.size≤lb∧g1<lb∧g6<lb:=⟨v_r.heap.size,aI _,aI _,ab.size,(U.ext (e8.t (I.t e_r))).lt,(av.ext (I.t e_r)).lt⟩
 refine cl (vs:= [By RA n rcap,AI cc]) ab ((O9 ab.size ag bg hn hcc (fun a b ha hb=>by rw [ar a b ha hb];exact a7 (hR.entB hS ha hb) (by omega))).mono (Gv.imp (MQ.imp (LQ.imp (q:=fun zs=>∃d Y,Rin X n cc d d Y∧En n cc Y zs) (K':=17179869184) (aI _) (aI _) (aI _) (fun _ h=>⟨d,Y,hR,En.cong (fun a b ha hb=>(ar a b ha hb)) _ h⟩))))) G (by kernel_rfl) fun _ _ bw cg cf=>?_
 obtain⟨_,rfl,⟨H,J,_,rfl,ae,ao⟩⟩:=bw
 have ai:=ae.block
 have ac:=(av.ext (I.t (e_r.trans cg)))
 refine so bS ac [AI n,AI cc,By H (n*cc) J] cf ak G G G G fun _ aw bi bc=>(mv 1 G (aE (bG (bF [.agg #[AI n,AI cc,By H (n*cc) J],I0] G ⟨⟨_,rfl,bY bS aw [AI n,AI cc,By H (n*cc) J] G (bq G) rfl⟩,rfl,Ht⟩ ?_))))
 exact⟨_,rfl,⟨_,_,rfl,⟨_,rfl,⟨_,_,_,rfl,((ae.updT ac bi (show∀p:a6,H=some p→p.block≠g6 from fun p hp=>by have:=ai p hp;omega))).mono (aI _) hb (a7 hlb aj),ao⟩⟩,rfl⟩,bc⟩
end
section
section
variable {A A' Y Y':Mx}{n c d d':Nat}
theorem Rin.eqv0 (h:Rin A n c d d Y):Eqv d n c Y A:=by have:=h.eqv;rwa [Nat.sub_self,Nat.sub_zero] at this
theorem Eqv.zeros (hd:d≤n)(h0:∀i,d≤i→i<n→∀b,b<c→Y i b=0):Eqv n d c Y Y:=
 ⟨fun i hi=>by
  rcases eB i d with h | h
  ·exact Spn.row h
  ·exact Spn.zero.congr fun b hb=>h0 i h hi b hb,fun i hi=>Spn.row (by omega)⟩
theorem Rin.one (h:Rin A n c d d Y)(h':Rin A' n c d' d' Y')(e:Eqv n n c A' A):∀i j,i<n→j<c→Y i j=Y' i j:=fun i j hi hj=>by
 obtain⟨_,H⟩:=h.hf.uniq h'.hf ((h.eqv0.trans e.symm).trans h'.eqv0.symm)
 rcases eB i d with o | o
 ·exact H i o j hj
 ·rw [h.ze i o hi j hj,h'.ze i (by omega) hi j hj]
theorem Rin.self (h:Rin A n c d d Y):Eqv n n c Y A:=(Eqv.zeros h.eN h.ze).trans h.eqv0
end
end
section
open Go.RowKit
section
variable {A A' Y Y':Mx}{n c d d' B:Nat}
end
def iI:Mx:=fun i j=>if i=0 then (if j=0 then 2 else 4) else if j=0 then 6 else 8
def nJ:Mx:=fun i j=>if i=0 then (if j=0 then 2 else 0) else if j=0 then 0 else 4
theorem HA:Hf 2 2 nJ:=by
 have H:ldr 2 (nJ 0)=0:=lG (fun j h=>absurd h (Nat.not_lt_zero j)) (by decide) (by decide)
 have o:ldr 2 (nJ 1)=1:=lG (fun j h=>(show∀j,j<1→nJ 1 j=0 by intro j h;have e:j=0:=Nat.lt_one_iff.1 h;subst e;exact Eq.refl _) j h) (by decide) (by decide)
 have J:∀i,i<2→i=0∨i=1:=fun i h=>by omega
 refine⟨⟨fun i hi=>?_,fun i k I U=>?_,fun i hi=>?_⟩,fun i k I U=>?_⟩
 ·rcases J i hi with rfl | rfl
  ·rw [H];decide
  ·rw [o];decide
 ·obtain rfl:i=0:=by omega
  obtain rfl:k=1:=by omega
  rw [H,o];decide
 ·rcases J i hi with rfl | rfl
  ·rw [H];decide
  ·rw [o];decide
 ·obtain rfl:i=0:=by omega
  obtain rfl:k=1:=by omega
  rw [o];decide
theorem HH:Eqv 2 2 2 nJ iI:=by
 have o:∀i,i<2→i=0∨i=1:=fun i h=>by omega
 refine⟨fun i hi=>?_,fun i hi=>?_⟩
 ·rcases o i hi with rfl | rfl
  ·exact⟨fun k=>if k=0 then-2 else 1,fun j hj=>by rcases o j hj with rfl | rfl <;> decide⟩
  ·exact⟨fun k=>if k=0 then 3 else-1,fun j hj=>by rcases o j hj with rfl | rfl <;> decide⟩
 ·rcases o i hi with rfl | rfl
  ·exact⟨fun k=>if k=0 then 1 else 1,fun j hj=>by rcases o j hj with rfl | rfl <;> decide⟩
  ·exact⟨fun k=>if k=0 then 3 else 2,fun j hj=>by rcases o j hj with rfl | rfl <;> decide⟩
theorem HC (hA:∀i j,i<2→j<2→A i j=iI i j)(h:Rin A 2 2 d d Y):∀i j,i<2→j<2→Y i j=nJ i j:=fun i j hi hj=>by
 have o:Eqv 2 2 2 A iI:=Eqv.same fun i hi b hb=>hA i b hi hb
 obtain⟨_,H⟩:=h.hf.uniq HA ((h.eqv0.trans o).trans HH.symm)
 exact H i (by omega) j hj
theorem P3:En 2 2 iI [2,4,6,8]:=fun i j hi hj=>by
 have o:∀i,i<2→i=0∨i=1:=fun i h=>by omega
 rcases o i hi with rfl | rfl <;> rcases o j hj with rfl | rfl <;> rfl
theorem MR {Kp bp lbp cp:Nat}(hlp:Lz none Kp bp w lbp Ap n cp zsp)(hlbp:lbp≤w.heap.size){Kt bt lbt ct:Nat}(hlt:Lz none Kt bt w lbt At n ct zst)(hlbt:lbt≤w.heap.size)(hn:n≤1048576)(he:∀i,i<n→zsp.getD i 0=zst.getD i 0):aR aJ 33 #[By Ap n cp,By At n ct] w (Gv w (Is (BY))):=by
 refine bQ Tryz.func33 G (n:=27) G (bq G) (args:= [By Ap n cp,By At n ct]) ?_
 have bv:=hlp.block
 have cd:=hlt.block
 refine bH [(0,By Ap n cp),(1,By At n ct)] ⟨rfl,rfl,Ht⟩ (sr (mv 1 G (aE (aH (sr (mv 1 G (pu (v:= AI n) G (mv 1 G (pu (v:= AI n) G (aN G G G false (kC (a:=n) (b:=n) G G) (aE (aY G (bA ?_)))))))))))))
 refine aM (aH (sr (mv 1 G (aE (bB ?_)))))
 refine d6 (T:=a0×Nat) (fun⟨wr,i⟩=> [(0,By Ap n cp),(1,By At n ct),(4,Hs),(5,AI i),(6,By Ap n cp),(7,AI n),(8,By At n ct),(9,AI n),(10,Hs)]) (fun⟨wr,i⟩=>wr) (fun⟨wr,i⟩=>(Ext w wr)∧(i≤n)∧(lbp≤wr.heap.size)∧(Lz none Kp bp wr lbp Ap n cp zsp)∧(lbt≤wr.heap.size)∧(Lz none Kt bt wr lbt At n ct zst)) (fun⟨wr,i⟩=>n-i)
  (⟨w,0⟩:a0×Nat) ⟨aB,(by omega),hlbp,hlp,hlbt,hlt⟩ G ⟨rfl,rfl,rfl,rfl,rfl,rfl,rfl,rfl,rfl,Ht⟩ ?_
 rintro⟨wr,i⟩ ⟨I,_,l_Apb,l_Ap,l_Atb,l_At⟩
 refine d4 [(0,By Ap n cp),(1,By At n ct),(4,Hs),(5,AI i),(6,By Ap n cp),(7,AI n),(8,By At n ct),(9,AI n),(10,Hs)] wr G ⟨rfl,rfl,rfl,rfl,rfl,rfl,rfl,rfl,rfl,Ht⟩ ?_
 have bz:=l_Ap.block
 have bw:=l_At.block
 refine aH (aH ?_)
 by_cases bg:i<n
 ·refine aL (mv 2 G (pu (v:= AI n) G (aN G G G true (dB (a:=i) (b:=n) G G) (aE (bJ G (bA (aM (aH (bB (aH ?_))))))))))
  obtain⟨J,aj,aq,ae,ak,ah,ai,ab,bh⟩:=(l_Ap).at (i:=i) (by omega)
  have U:=bh.zr
  have cf:ln (zsp.getD i 0)≤Kp:=U.ln_le ab
  obtain⟨ac,aw,ag,ao,au,aa,az,av,bi⟩:=(l_At).at (i:=i) (by omega)
  have ar:=bi.zr
  have ce:ln (zst.getD i 0)≤Kt:=ar.ln_le av
  refine dP cF 10 [] [Is (By Ap n cp),Is (AI i),Is (.pointer (some J)),Is (O aj aq ae ak),Is (By At n ct),Is (AI i),Is (.pointer (some ac)),Is (O aw ag ao au),Is (BY),Is (Hs)] [[],[],[0,1],[2],[],[],[4,5],[6],[3,7],[8]] [[],[],[0,1],[0,1,2],[],[],[4,5],[4,5,6],[0,1,2,3,4,5,6,7],[0,1,2,3,4,5,6,7,8]] rfl
   (aD G G (aA G G ?_) (aD G G (aA G G ?_) (aD G G (aA G G ?_) (aD G G (aA G G ?_) (aD G G (aA G G ?_) (aD G G (aA G G ?_) (aD G G (aA G G ?_) (aD G G (aA G G ?_) (aD G G (aA G G ?_) (aD G G (aA G G ?_) dF)))))))))) ?_
  ·exact fun _ _=>a8 (mv 1 G (aC G aB G))
  ·exact fun _ _=>a8 (mv 1 G (aC G aB G))
  ·exact fun _ _=>dk G G (dk G G (a8 (aX G G G bM aG.size i G J ah (aC G aB G))))
  ·exact fun _ ba=>dk G G (a8 (aK G G (ai _ ba _ _ aG) (aC G aB G)))
  ·exact fun _ _=>a8 (mv 1 G (aC G aB G))
  ·exact fun _ _=>a8 (mv 1 G (aC G aB G))
  ·exact fun _ _=>dk G G (dk G G (a8 (aX G G G bM aG.size i G ac aa (aC G aB G))))
  ·exact fun _ bc=>dk G G (a8 (aK G G (az _ bc _ _ aG) (aC G aB G)))
  ·intro _ H
   have o:=I.trans H
   refine dk G G (dk G G (a8 (cl (vs:= [O aj aq ae ak,O aw ag ao au]) o (qN (U.ext H) (((ar.ext H)).cast (he i bg).symm)) G (by kernel_rfl) fun _ _ bj bo _=>?_)))
   obtain rfl:=bj
   exact aC G bo rfl
  ·exact fun _ _=>dk G G (a8 (pu (v:= Hs) G (aC G aB G)))
  ·intro bu h
   have o:=I.trans h
   refine dk G G (dk G G (dk G G (dk G G (dk G G (dk G G (dk G G (dk G G (dk G G (dk G G (a8 (aS (dA (aM ?_)))))))))))))
   refine aY G (bA (cC (aM (aL (mv 1 G (bC G G G ((i+1:Nat):Int) (bW (a:=i) (b:=1) G G) (mv 1 G (aS (cB (⟨bu,i+1⟩:a0×Nat) ⟨o,(by omega),(a7 l_Apb h.size),(l_Ap.ext h),(a7 l_Atb h.size),(l_At.ext h)⟩ (show n-(i+1)<n-i by omega) G ⟨rfl,rfl,rfl,rfl,rfl,rfl,rfl,rfl,rfl,Ht⟩)))))))))
 ·refine aL (mv 2 G (pu (v:= AI n) G (aN G G G false (dK (a:=i) (b:=n) G G) (aE (aY G (cM (cK (cT (cL (aM (sr (mv 1 G (aS ?_)))))))))))))
  refine aM (bG (bF [BY] G ⟨rfl,Ht⟩ ?_))
  exact⟨_,rfl,rfl,I⟩
end
section
def pd:Nat→(Nat→Int)→Int
 | 0,_=>1
 | n+1,f=>pd n f*f n
theorem kN {f g:Nat→Int}:∀n,(∀i,i<n→f i=g i)→pd n f=pd n g
 | 0,_=>rfl
 | n+1,h=>by rw [pd,pd,kN n fun i hi=>h i (by omega),h n (by omega)]
theorem CH (f:Nat→Int):∀n,pd (n+1) f=f 0*pd n fun i=>f (i+1)
 | 0=>by simp [pd]
 | n+1=>by
  rw [pd,CH f n,Int.mul_assoc];rfl
theorem qH {f:Nat→Int}{i:Nat}:∀{n},i<n→f i∣pd n f
 | n+1,h=>by
  rw [pd]
  by_cases e:i=n
  ·subst e;exact Int.dvd_mul_left _ _
  ·exact Int.dvd_mul_of_dvd_left (qH (by omega))
theorem nH {f:Nat→Int}:∀n,(∀i,i<n→0<f i)→0<pd n f
 | 0,_=>(by decide:(0:Int)<1)
 | n+1,h=>by rw [pd];exact Int.mul_pos (nH n fun i hi=>h i (by omega)) (h n (by omega))
theorem CE {f : Nat → Int}{s : Nat}: ∀ n, s ≤ n → pd s f ∣ pd n f
  | 0, h => by obtain rfl : s = 0 := by omega
               exact Int.dvd_refl _
  | n + 1, h => by
    by_cases e : s = n + 1
    · subst e; exact Int.dvd_refl _
    · rw [pd]; exact Int.dvd_mul_of_dvd_left (CE n (by omega))
theorem tU:∀(n:Nat) (A:Mx),(∀i j,j<i→i<n→A i j=0)→dt n A=pd n fun i=>A i i
 | 0,_,_=>rfl
 | n+1,A,h=>by
  have e:dt (n+1) A=A 0 0*dt n (mi A 0):=by
   have H:dt (n+1) A=sm (n+1) fun i=>pm i*(A i 0*dt n (mi A i)):=rfl
   rw [H,sV,←Int.add_zero (A 0 0*dt n (mi A 0))]
   congr 1
   ·simp [pm]
   ·rw [←i0 n]
    exact cX fun i hi=>by rw [h (i+1) 0 (by omega) (by omega)];simp
  have o:∀r s,mi A 0 r s=A (r+1) (s+1):=fun r s=>rfl
  rw [e,tU n (mi A 0) fun i j _ hi=>by rw [o];exact h _ _ (by omega) (by omega),CH]
  rfl
section
variable {c d n r p m:Nat}{Z Y B N A:Mx}
theorem Sub.comb (hs:Sub d m c B Z):∃f:Mx,∀i,i<d→∀j,j<c→B i j=sm m fun k=>f i k*Z k j:=by
 have key:∀i,∃x:Nat→Int,i<d→∀j,j<c→B i j=sm m fun k=>x k*Z k j:=fun i=>by
  by_cases hi:i<d
  ·obtain⟨x,h⟩:=hs i hi
   exact⟨x,fun _=>h⟩
  ·exact⟨fun _=>0,fun hh=>absurd hh hi⟩
 obtain⟨f,hf⟩:=Classical.axiomOfChoice key
 exact⟨f,fun i hi=>hf i hi⟩
theorem Ech.pdvd (h:Ech c d Z)(hs:Sub d d c B Z):(pd d fun i=>Z i (ldr c (Z i)))∣Go.Proofs.YtnpbbknemflpnaaGreat.mnr c d Z B:=by
 obtain⟨f,hf⟩:=hs.comb
 have e:Go.Proofs.YtnpbbknemflpnaaGreat.mnr c d Z B=dt d f*dt d (fun i j=>Z i (ldr c (Z j))):=by
  unfold Go.Proofs.YtnpbbknemflpnaaGreat.mnr
  rw [←qY]
  exact fA fun i j hi hj=>hf i hi _ (h.lt j hj)
 rw [e,tU d _ fun i j o hi=>h.low o hi (aI _)]
 exact Int.dvd_mul_left _ _
theorem cut {f:Nat→Nat}(p:Nat):∀r,(∀i k,i<k→k<r→f i<f k)→∃s,s≤r∧(∀l,l<s→f l<p)∧∀l,s≤l→l<r→p≤f l
 | 0,_=>⟨0,aI _,fun l h=>absurd h (Nat.not_lt_zero l),fun l h1 h2=>by omega⟩
 | r+1,h=>by
  obtain⟨s,h1,h2,h3⟩:=cut p r fun i k H _=>h i k H (by omega)
  by_cases e:f r<p
  ·refine⟨r+1,aI _,fun l hl=>?_,fun l h1 h2=>by omega⟩
   by_cases o:l=r
   ·rw [o];exact e
   ·have:=h l r (by omega) (by omega);omega
  ·refine⟨s,by omega,h2,fun l I _=>?_⟩
   by_cases o:l=r
   ·rw [o];omega
   ·exact h3 l I (by omega)
structure Cols (r n s d:Nat)(Y:Mx):Prop where
 sr:s≤r
 ds:d=s
 ld:∀i,i<d→ldr n (Y i)=i
 out:∀i j,i<d→s≤j→j<n→Y i j=0
theorem AZ (hN:Ech c r N)(hrn:r≤n)(hz:∀i,r≤i→i<n→∀j,j<c→N i j=0){s:Nat}(hs:s≤r)(hp:∀l,l<s→ldr c (N l)<p):∀k,k≤s→∀i,i<k→Qsp p n (tq N) fun j=>if j=i then 1 else 0
 | 0,_,i,hi=>absurd hi (Nat.not_lt_zero i)
 | k+1,hk,i,hi=>by
  have ih:=AZ hN hrn hz hs hp k (by omega)
  by_cases e:i=k
  ·subst e
   have J:=hN.pos i (by omega)
   have H:Qsp p n (tq N) (tq N (ldr c (N i))):=(Spn.row (hp i (by omega))).q
   have o:Qsp p n (tq N) fun j=>sm i fun l=>N l (ldr c (N i))*(if j=l then 1 else 0):=Qsp.sum (V:=fun l j=>if j=l then 1 else 0) fun l hl=>ih l hl
   refine Qsp.of (a:=N i (ldr c (N i))) ((H.lin o 1 (-1)).congr fun j hj=>?_) (by omega)
   show N i (ldr c (N i))*(if j=i then 1 else 0)=1*N j (ldr c (N i))+ -1*sm i fun l=>N l (ldr c (N i))*(if j=l then 1 else 0)
   rcases Nat.lt_trichotomy j i with h | h | h
   ·rw [if_neg (by omega),Int.mul_zero,←iP h fun l=>N l (ldr c (N i))]
    have:(sm i fun l=>N l (ldr c (N i))*(if j=l then 1 else 0))=sm i fun l=>if l=j then N l (ldr c (N i)) else 0:=cX fun l _=>by
     by_cases e:l=j
     ·rw [if_pos e,if_pos e.symm,Int.mul_one]
     ·rw [if_neg e,if_neg (fun q=>e q.symm),Int.mul_zero]
    rw [this,iP h fun l=>N l (ldr c (N i))]
    omega
   ·subst h
    have:(sm j fun l=>N l (ldr c (N j))*(if j=l then 1 else 0))=0:=(cX fun l hl=>by rw [if_neg (by omega),Int.mul_zero]).trans (i0 j)
    rw [this,if_pos rfl];omega
   ·have U:N j (ldr c (N i))=0:=by
     rcases eB j r with I | I
     ·exact hN.low h I (aI _)
     ·exact hz j I hj _ (hN.lt i (by omega))
    have:(sm i fun l=>N l (ldr c (N i))*(if j=l then 1 else 0))=0:=(cX fun l hl=>by rw [if_neg (by omega),Int.mul_zero]).trans (i0 i)
    rw [this,if_neg (by omega),U];simp
  ·exact ih i (by omega)
theorem EV (hN:Ech c r N)(hrn:r≤n)(hz:∀i,r≤i→i<n→∀j,j<c→N i j=0)(hpc:p≤c)(hY:Ech n d Y)(he:Eqv d p n Y (tq N)):∃s,Cols r n s d Y∧(∀l,l<s→ldr c (N l)<p)∧∀l,s≤l→l<r→p≤ldr c (N l):=by
 obtain⟨s,hs,h1,h2⟩:=cut (f:=fun l=>ldr c (N l)) p r hN.up
 have h:∀i j,i<d→s≤j→j<n→Y i j=0:=fun i j hi hj H=>by
  obtain⟨x,hx⟩:=he.fw i hi
  rw [hx j H,←i0 p]
  refine cX fun k o=>?_
  show x k*N j k=0
  rcases eB j r with I | I
  ·rw [iT (f:=N j) (c:=c) (j:=k) (by have:=h2 j hj I;omega),Int.mul_zero]
  ·rw [hz j I H k (by omega),Int.mul_zero]
 have hl:∀i,i<d→ldr n (Y i)<s:=fun i hi=>by
  refine Nat.lt_of_not_le fun I=>?_
  have h4:=hY.lt i hi
  have h5:=h i _ hi I h4
  have:=hY.pos i hi
  omega
 have U:∀i,i<s→∃k,k<d∧ldr n (Y k)=i:=fun i hi=>by
  obtain⟨t,ht,hq⟩:=AZ (p:=p) hN hrn hz hs h1 s (aI _) i hi
  have hv:=hq.trans he.fro
  have J:ldr n (fun j=>t*(if j=i then 1 else 0))=i:=lG (fun j hj=>by rw [if_neg (by omega),Int.mul_zero]) (by omega) (by rw [if_pos rfl,Int.mul_one];exact ht)
  obtain⟨k,y,o,_,e1,_⟩:=hY.at_ hv (by rw [J];omega)
  exact⟨k,o,by rw [←e1,J]⟩
 have key:∀i,∃k,i<s→k<d∧ldr n (Y k)=i:=fun i=>by
  by_cases hi:i<s
  ·obtain⟨k,o⟩:=U i hi;exact⟨k,fun _=>o⟩
  ·exact⟨0,fun hh=>absurd hh hi⟩
 obtain⟨g,hg⟩:=Classical.axiomOfChoice key
 have aj:s≤d:=tI (fun i hi=>(hg i hi).1) fun i k _ o=>by
  rcases Nat.lt_trichotomy (g i) (g k) with e | e | e
  ·exact e
  ·have a1:=(hg i (by omega)).2;have a2:=(hg k o).2;rw [e] at a1;omega
  ·have a1:=(hg i (by omega)).2;have a2:=(hg k o).2;have:=hY.up _ _ e (hg i (by omega)).1;omega
 have ae:d≤s:=tI hl hY.up
 have e:d=s:=by omega
 subst e
 exact⟨d,⟨hs,rfl,xA hl hY.up,h⟩,h1,h2⟩
end
section
variable {c d n r p s:Nat}{N Y:Mx}
theorem Cols.pd (h:Cols r n s d Y)(hN:Ech c r N)(hY:Ech n d Y)(he:Eqv d p n Y (tq N))(h1:∀l,l<s→ldr c (N l)<p):(Go.Proofs.YtnpbbknemflpnaaGreat.pd d fun i=>Y i i)∣Go.Proofs.YtnpbbknemflpnaaGreat.pd d fun i=>N i (ldr c (N i)):=by
 obtain⟨_,rfl,o,_⟩:=h
 have U:Sub d d n (fun k=>tq N (ldr c (N k))) Y:=fun i hi=>he.fro _ (h1 i hi)
 have I:=hY.pdvd U
 have J:mnr n d Y (fun k=>tq N (ldr c (N k)))=Go.Proofs.YtnpbbknemflpnaaGreat.pd d fun i=>N i (ldr c (N i)):=by
  have e2:mnr n d Y (fun k=>tq N (ldr c (N k)))=dt d (tq fun i j=>N i (ldr c (N j))):=fA fun i j hi hj=>by rw [o j hj];rfl
  rw [e2,oZ,tU d _ fun i j H hi=>hN.low H (by omega) (aI _)]
 rw [J] at I
 rwa [kN d fun i hi=>by rw [o i hi]] at I
theorem Cols.ent (h:Cols r n s d Y)(hY:Hf n d Y)(hi:i<d)(hj:j<n):(Y i j).natAbs≤(Go.Proofs.YtnpbbknemflpnaaGreat.pd d fun i=>Y i i).natAbs:=by
 obtain⟨_,rfl,o,H⟩:=h
 have hp:∀i,i<d→0<Y i i:=fun i hi=>by have:=hY.pos i hi;rwa [o i hi] at this
 have hP:=nH d hp
 have U:∀i,i<d→Y i i≤Go.Proofs.YtnpbbknemflpnaaGreat.pd d fun i=>Y i i:=fun i hi=>Int.le_of_dvd hP (qH (f:=fun i=>Y i i) hi)
 rcases eB j d with J | J
 ·rcases Nat.lt_trichotomy i j with I | I | I
  ·obtain⟨h3,h4⟩:=hY.red i j I J
   rw [o j J] at h3 h4
   have:=U j J
   omega
  ·subst I
   have:=U i hi
   have:=hp i hi
   omega
  ·rw [iT (f:=Y i) (c:=n) (j:=j) (by rw [o i hi];exact I)];exact bX _
 ·rw [H i j hi J hj];exact bX _
structure Sq (c r:Nat)(N:Mx):Prop extends Hf c r N where
 ld:∀i,i<r→ldr c (N i)=i
 out:∀i j,i<r→r≤j→j<c→N i j=0
def Zb (n c r:Nat)(N:Mx):Prop:=∀i,r≤i→i<n→∀j,j<c→N i j=0
theorem Sq.rc (h:Sq c r N):r≤c:=by
 refine kW fun o=>?_
 have:=h.lt c o
 have:=h.ld c o
 omega
theorem Sq.pos' (h:Sq c r N)(hi:i<r):0<N i i:=by have:=h.pos i hi;rwa [h.ld i hi] at this
theorem Sq.low' (h:Sq c r N)(hi:i<r)(hj:j<i):N i j=0:=iT (f:=N i) (c:=c) (by rw [h.ld i hi];exact hj)
theorem Sq.red' (h:Sq c r N)(hi:i<j)(hj:j<r):0≤N i j∧N i j<N j j:=by have:=h.red i j hi hj;rwa [h.ld j hj] at this
theorem BD (hN:Hf c r N)(hrn:r≤n)(hz:Zb n c r N)(h:Rin (tq N) c n d d Y):d=r∧Sq n r Y∧Zb c n r Y∧(pd r fun i=>Y i i)∣pd r fun i=>N i (ldr c (N i)):=by
 obtain⟨s,o,J,h2⟩:=EV hN.toEch hrn hz (aI c) h.hf.toEch h.eqv0
 have U:s=r:=by
  refine Nat.le_antisymm o.sr (kW fun I=>?_)
  have:=h2 s (aI _) I
  have:=hN.lt s I
  omega
 have H:=o.ds
 subst U
 subst H
 exact⟨rfl,⟨h.hf,o.ld,o.out⟩,h.ze,o.pd hN.toEch h.hf.toEch h.eqv0 J⟩
theorem IL {f:Nat→Int}{a:Nat}(ha:a<r)(hb:b<r)(hab:a≠b)(h:∀l,l<r→l≠a→l≠b→f l=0):sm r f=f a+f b:=by
 rw [←iP ha f,←iP hb f,←kM]
 refine cX fun l hl=>?_
 by_cases o:l=a
 ·subst o;rw [if_pos rfl,if_neg hab];omega
 ·by_cases H:l=b
  ·rw [if_neg o,if_pos H];omega
  ·rw [if_neg o,if_neg H,h l hl o H];rfl
theorem LH (hN:Sq c r N)(hY:Sq n r Y)(he:Eqv r c n Y (tq N))(hk:k<r)(hd:∀l,l<k→∀j,j<n→j≠l→Y l j=0):Y k k∣N k k∧(Y k k=N k k→∀j,j<n→j≠k→Y k j=0):=by
 have hkc:k<c:=by have:=hN.rc;omega
 have hrn:=hY.rc
 obtain⟨x,hx⟩:=he.fro k hkc
 have e0:N k k=x k*Y k k:=by
  have h1:=hx k (by omega)
  have h2:tq N k k=N k k:=rfl
  rw [←h2,h1,←iP hk fun l=>x l*Y l k]
  refine cX fun l hl=>?_
  rcases Nat.lt_trichotomy l k with h3 | h3 | h3
  ·rw [if_neg (by omega),hd l h3 k (by omega) (by omega),Int.mul_zero]
  ·rw [if_pos h3]
  ·rw [if_neg (by omega),hY.low' hl h3,Int.mul_zero]
 refine⟨⟨x k,by rw [e0,Int.mul_comm]⟩,fun e=>?_⟩
 have hxk:x k=1:=by
  have hp:=hY.pos' hk
  rw [←e] at e0
  exact (Int.eq_of_mul_eq_mul_right (show Y k k≠0 by omega) (by rw [Int.one_mul];exact e0)).symm
 have key:∀j,k<j→j<r→x j=0∧Y k j=0:=by
  intro j
  induction j using Nat.strongRecOn with
  | _ j ih=>
   intro h1 h2
   have h3:=hx j (by omega)
   have h4:tq N k j=0:=by
    show N j k=0
    exact hN.low' h2 h1
   rw [h4,IL hk h2 (by omega) fun l hl n1 n2=>?_] at h3
   ·rw [hxk,Int.one_mul] at h3
    obtain⟨r1,r2⟩:=hY.red' h1 h2
    have hp:=hY.pos' h2
    have hx0:x j=0:=by
     have hd1:Y j j∣Y k j:=⟨-x j,by rw [Int.mul_neg,Int.mul_comm];omega⟩
     have hz0:=Int.eq_zero_of_dvd_of_natAbs_lt_natAbs hd1 (by omega)
     rw [hz0,Int.zero_add] at h3
     rcases Int.mul_eq_zero.1 h3.symm with h5 | h5
     ·exact h5
     ·omega
    rw [hx0,Int.zero_mul] at h3
    exact⟨hx0,by omega⟩
   ·rcases Nat.lt_trichotomy l k with h5 | h5 | h5
    ·rw [hd l h5 j (by omega) (by omega),Int.mul_zero]
    ·exact absurd h5 n1
    ·rcases Nat.lt_trichotomy l j with h6 | h6 | h6
     ·rw [(ih l h6 h5 hl).1,Int.zero_mul]
     ·exact absurd h6 n2
     ·rw [hY.low' hl h6,Int.mul_zero]
 intro j hj hne
 rcases Nat.lt_trichotomy j k with h1 | h1 | h1
 ·exact hY.low' hk h1
 ·exact absurd h1 hne
 ·rcases eB j r with h2 | h2
  ·exact (key j h1 h2).2
  ·exact hY.out k j hk h2 hj
theorem LI (hN:Sq c r N)(hY:Sq n r Y)(he:Eqv r c n Y (tq N)):(∀i,i<r→∀j,j<n→j≠i→Y i j=0)∨∃k,k<r∧(∀l,l<k→Y l l=N l l)∧Y k k<N k k:=by
 have key:∀k,k≤r→((∀l,l<k→Y l l=N l l)∧∀i,i<k→∀j,j<n→j≠i→Y i j=0)∨∃k,k<r∧(∀l,l<k→Y l l=N l l)∧Y k k<N k k:=by
  intro k
  induction k with
  | zero=>intro _;exact bE ⟨fun l h=>absurd h (Nat.not_lt_zero l),fun l h=>absurd h (Nat.not_lt_zero l)⟩
  | succ k ih=>
   intro hk
   rcases ih (by omega) with⟨h1,h2⟩ | h
   ·obtain⟨h3,h4⟩:=LH hN hY he (show k<r by omega) h2
    by_cases e:Y k k=N k k
    ·refine bE ⟨fun l hl=>?_,fun i hi=>?_⟩
     ·by_cases el:l=k
      ·rw [el];exact e
      ·exact h1 l (by omega)
     ·by_cases ei:i=k
      ·rw [ei];exact h4 e
      ·exact h2 i (by omega)
    ·have:=Int.le_of_dvd (hN.pos' (show k<r by omega)) h3
     exact bK ⟨k,by omega,h1,by omega⟩
   ·exact bK h
 rcases key r (aI r) with⟨_,h⟩ | h
 ·exact bE h
 ·exact bK h
end
def mu (B:Nat):Nat→(Nat→Int)→Nat
 | 0,_=>0
 | n+1,f=>mu B n f*(B+1)+(f n).toNat
theorem CY {B:Nat}{f g:Nat→Int}:∀n,(∀i,i<n→f i=g i)→mu B n f=mu B n g
 | 0,_=>rfl
 | n+1,h=>by rw [mu,mu,CY n fun i hi=>h i (by omega),h n (by omega)]
theorem CX {B k:Nat}{f g:Nat→Int}:∀n,k<n→(∀l,l<k→f l=g l)→f k<g k→0<g k→(∀i,i<n→(f i).toNat≤B)→mu B n f<mu B n g
 | 0,h,_,_,_,_=>absurd h (Nat.not_lt_zero k)
 | n+1,h,h1,h2,h3,h4=>by
  rw [mu,mu]
  by_cases e:k=n
  ·subst e
   rw [CY k h1]
   have:(f k).toNat<(g k).toNat:=by omega
   omega
  ·have ih:=CX n (by omega) h1 h2 h3 fun i hi=>h4 i (by omega)
   have H:=h4 n (by omega)
   have o:=dX (B+1) (show mu B n f+1≤mu B n g from ih)
   rw [dS,Nat.one_mul] at o
   omega
end
section
open Classical in
noncomputable def nN (n c:Nat)(A:Mx):Mx:=if h:∃p:Nat×Mx,Rin A n c p.1 p.1 p.2 then (jB h).2 else A
theorem tQ (h:Rin A n c d d Y):∃e,Rin A n c e e (nN n c A):=by
 have o:∃p:Nat×Mx,Rin A n c p.1 p.1 p.2:=⟨(d,Y),h⟩
 unfold nN
 rw [dif_pos o]
 exact⟨_,lX o⟩
theorem tR (h:Rin A n c d d Y):∀i j,i<n→j<c→Y i j=nN n c A i j:=by
 obtain⟨e,o⟩:=tQ h
 exact h.one o (Eqv.refl n c A)
noncomputable def cS (n c:Nat)(X:Mx):Nat→Mx
 | 0=>nN n c X
 | k+1=>if k%2=0 then nN c n (tq (cS n c X k)) else nN n c (tq (cS n c X k))
noncomputable def cI (n c:Nat)(X:Mx)(k:Nat):Mx:=if k%2=0 then cS n c X k else tq (cS n c X k)
def sA (n c k:Nat):Nat:=if k%2=0 then n else c
def sB (n c k:Nat):Nat:=if k%2=0 then c else n
theorem BU (n c k:Nat):sA n c (k+1)=sB n c k:=by unfold sA sB;by_cases h:k%2=0 <;> simp [h,show (k+1)%2=0↔ ¬k%2=0 by omega]
theorem oJ (n c k:Nat):sB n c (k+1)=sA n c k:=by unfold sA sB;by_cases h:k%2=0 <;> simp [h,show (k+1)%2=0↔ ¬k%2=0 by omega]
theorem tA (n c:Nat)(X:Mx)(k:Nat):cS n c X (k+1)=nN (sB n c k) (sA n c k) (tq (cS n c X k)):=by
 rw [cS];unfold sA sB
 split <;> rfl
def eP (n c:Nat)(M:Mx):Prop:=∀i j,i<n→j<c→i≠j→M i j=0
theorem xQ:eP n c (cI n c X k)↔eP (sA n c k) (sB n c k) (cS n c X k):=by
 unfold cI sA sB
 split
 ·exact Iff.rfl
 ·exact⟨fun h i j hi hj o=>h j i hj hi fun e=>o e.symm,fun h i j hi hj o=>h j i hj hi fun e=>o e.symm⟩
def tW (N:Mx):Nat→Int:=fun i=>N i i
theorem qI:cI n c X k i i=cS n c X k i i:=by unfold cI;split <;> rfl
section
variable {n c r d e k:Nat}{X A B N Y Z:Mx}
theorem EB (h:Eqv n n n A B):(dt n A).natAbs=(dt n B).natAbs:=by
 obtain⟨f,hf⟩:=h.fw.comb
 obtain⟨g,hg⟩:=h.fro.comb
 have o:dt n A=dt n f*dt n B:=by rw [←qY];exact fA fun i j hi hj=>hf i hi j hj
 have H:dt n B=dt n g*dt n A:=by rw [←qY];exact fA fun i j hi hj=>hg i hi j hj
 exact Nat.dvd_antisymm (Int.natAbs_dvd_natAbs.2 ⟨dt n g,by rw [Int.mul_comm];exact H⟩) (Int.natAbs_dvd_natAbs.2 ⟨dt n f,by rw [Int.mul_comm];exact o⟩)
theorem J5 (hN:Hf c r N)(hrn:r≤n)(hz:Zb n c r N)(h:Rin (tq N) c n d e Z):∀i j,i<d→j<n→(Z i j).natAbs≤(pd r fun i=>N i (ldr c (N i))).natAbs:=fun i j hi hj=>by
 obtain⟨s,o,J,_⟩:=EV (p:=c-(e-d)) hN.toEch hrn hz (Nat.sub_le _ _) h.hf.toEch h.eqv
 have H:0<pd r fun i=>N i (ldr c (N i)):=nH r hN.pos
 have I:(pd d fun i=>Z i i)∣pd r fun i=>N i (ldr c (N i)):=Int.dvd_trans (o.pd hN.toEch h.hf.toEch h.eqv J) (CE r (by have:=o.sr;have:=o.ds;omega))
 exact a7 (o.ent h.hf hi hj) (Nat.le_of_dvd (by omega) (Int.natAbs_dvd_natAbs.2 I))
structure Sni (n c:Nat)(X:Mx)(D:Int)(r k:Nat):Prop where
 hf:Hf (sB n c k) r (cS n c X k)
 rn:r≤sA n c k
 zb:Zb (sA n c k) (sB n c k) r (cS n c X k)
 dv:(pd r fun i=>cS n c X k i (ldr (sB n c k) (cS n c X k i)))∣D
 sq:0<k→Sq (sB n c k) r (cS n c X k)
 dx:n=c→(dt n (cS n c X k)).natAbs=(dt n X).natAbs
theorem Sni.start (h:Rin X n c d d Y):∃r,Rin X n c r r (cS n c X 0)∧Sni n c X (pd r fun i=>cS n c X 0 i (ldr c (cS n c X 0 i))) r 0:=by
 obtain⟨r,hr⟩:=tQ h
 refine⟨r,hr,⟨hr.hf,hr.eN,hr.ze,Int.dvd_refl _,fun h=>absurd h (Nat.lt_irrefl 0),fun e=>?_⟩⟩
 subst e
 exact EB hr.self
theorem Sni.next (h:Sni n c X D r k)(hY:Rin (tq (cS n c X k)) (sB n c k) (sA n c k) d d Y):Sni n c X D r (k+1):=by
 obtain⟨e,H⟩:=tQ hY
 rw [←tA] at H
 obtain⟨h1,o,h3,U⟩:=BD h.hf h.rn h.zb H
 subst h1
 have J:(pd e fun i=>cS n c X (k+1) i (ldr (sB n c (k+1)) (cS n c X (k+1) i)))=pd e fun i=>cS n c X (k+1) i i:=kN e fun i hi=>by rw [oJ,o.ld i hi]
 refine⟨by rw [oJ];exact o.toHf,by rw [BU];exact o.toHf.toEch |> fun _=>H.eN,by rw [BU,oJ];exact h3,by rw [J];exact Int.dvd_trans U h.dv,fun _=>by rw [oJ];exact o,fun ec=>?_⟩
 subst ec
 have ea:sA n n k=n:=by unfold sA;split <;> rfl
 have eb:sB n n k=n:=by unfold sB;split <;> rfl
 have I:=H.self
 rw [ea,eb] at I
 rw [EB I,oZ,h.dx rfl]
theorem Sni.eqv (h:Sni n c X D r k)(hY:Rin (tq (cS n c X k)) (sB n c k) (sA n c k) d d Y):Eqv r (sB n c k) (sA n c k) (cS n c X (k+1)) (tq (cS n c X k)):=by
 obtain⟨e,o⟩:=tQ hY
 rw [←tA] at o
 obtain⟨H,_⟩:=BD h.hf h.rn h.zb o
 subst H
 exact o.eqv0
open Classical in
noncomputable def jJ (n c:Nat)(X:Mx)(D:Int)(r k:Nat):Nat:=if eP n c (cI n c X k) then 0 else if k=0 then mu D.natAbs r (tW (cS n c X 1))+2 else mu D.natAbs r (tW (cS n c X k))+1
theorem Sni.ent (h:Sni n c X D r k)(hk:0<k)(hD:0<D)(hi:i<r):0<cS n c X k i i∧cS n c X k i i≤D:=by
 have o:=h.sq hk
 refine⟨o.pos' hi,Int.le_trans (Int.le_of_dvd (nH r h.hf.pos) ?_) (Int.le_of_dvd hD h.dv)⟩
 have:=qH (f:=fun i=>cS n c X k i (ldr (sB n c k) (cS n c X k i))) hi
 simpa only [o.ld i hi] using this
theorem Sni.less (hD:0<D)(h:Sni n c X D r k)(hY:Rin (tq (cS n c X k)) (sB n c k) (sA n c k) d d Y)(hnd:¬eP n c (cI n c X k)):jJ n c X D r (k+1)<jJ n c X D r k:=by
 have h':=h.next hY
 have hR:=h.eqv hY
 unfold jJ
 rw [if_neg hnd]
 by_cases H:eP n c (cI n c X (k+1))
 ·rw [if_pos H];split <;> omega
 rw [if_neg H,if_neg (Nat.succ_ne_zero k)]
 by_cases U:k=0
 ·subst U;rw [if_pos rfl];exact Nat.lt_succ_self _
 rw [if_neg U]
 have J:=h.sq (by omega)
 have hs':=h'.sq (by omega)
 rw [oJ] at hs'
 rcases LI J hs' hR with h1 | ⟨l,hl,h2,h3⟩
 ·refine absurd (xQ.2 fun i j hi hj I=>?_) H
  rcases eB i r with o | o
  ·rw [oJ] at hj
   exact h1 i o j hj fun e=>I e.symm
  ·exact h'.zb i o hi j hj
 ·have:=CX (B:=D.natAbs) (f:=tW (cS n c X (k+1))) (g:=tW (cS n c X k)) r hl (fun l hl=>h2 l hl) h3 (J.pos' hl) fun i hi=>by
   obtain⟨_,_⟩:=h'.ent (Nat.succ_pos k) hD hi
   show (cS n c X (k+1) i i).toNat≤_
   omega
  omega
end
end
section
def fS (f:Nat→Int)(i j:Nat):Nat→Int:=fun k=>if k=i then (Int.gcd (f i) (f j):Int) else if k=j then (Int.lcm (f i) (f j):Int) else f k
def gN (f:Nat→Int)(i:Nat):Nat→Nat→Int
 | 0=>f
 | t+1=>fS (gN f i t) i (i+1+t)
def i8 (f:Nat→Int)(m:Nat):Nat→Nat→Int
 | 0=>f
 | i+1=>gN (i8 f m i) i (m-(i+1))
def nz (x:Int):Int:=if x=0 then 1 else x
theorem CO (x:Int):nz x≠0:=by unfold nz;split <;> omega
theorem DJ {b:Int}(ha:0≤a)(hb:0≤b):(Int.gcd a b:Int)*(Int.lcm a b:Int)=a*b:=by
 obtain⟨x,rfl⟩:=Int.eq_ofNat_of_zero_le ha
 obtain⟨y,rfl⟩:=Int.eq_ofNat_of_zero_le hb
 have:Nat.gcd x y*Nat.lcm x y=x*y:=Nat.gcd_mul_lcm x y
 exact_mod_cast this
theorem MC {b:Int}(ha:0≤a)(hb:0≤b):nz (Int.gcd a b:Int)*nz (Int.lcm a b:Int)=nz a*nz b:=by
 by_cases o:a=0
 ·subst o
  rw [Int.gcd_zero_left,Int.zero_lcm] at*
  rw [show ((b.natAbs:Nat):Int)=b by omega,Int.mul_comm];rfl
 ·by_cases H:b=0
  ·subst H
   rw [Int.gcd_zero_right,Int.lcm_zero]
   rw [show ((a.natAbs:Nat):Int)=a by omega];rfl
  ·have hg:=Int.gcd_pos_of_ne_zero_left b o
   have e:=DJ ha hb
   have hl:(Int.lcm a b:Int)≠0:=fun I=>by
    rw [I,Int.mul_zero] at e
    rcases Int.mul_eq_zero.1 e.symm with h | h
    ·exact o h
    ·exact H h
   unfold nz
   rw [if_neg (by omega),if_neg hl,if_neg o,if_neg H]
   exact e
theorem qG {f:Nat→Int}{i:Nat}:∀{n},i<n→pd n f=f i*pd n fun k=>if k=i then 1 else f k
 | n+1,h=>by
  by_cases e:i=n
  ·subst e
   rw [pd,pd,if_pos rfl,Int.mul_one,kN (g:=f) i fun k hk=>if_neg (by omega),Int.mul_comm]
  ·rw [pd,pd,if_neg (by omega),qG (show i<n by omega),Int.mul_assoc]
theorem CF {f g:Nat→Int}(hi:i<n)(hj:j<n)(hij:i≠j)(h:∀k,k≠i→k≠j→g k=f k)(e:g i*g j=f i*f j):pd n g=pd n f:=by
 rw [qG hi,qG (f:=f) hi,qG (f:=fun k=>if k=i then 1 else g k) hj,qG (f:=fun k=>if k=i then 1 else f k) hj]
 rw [if_neg (fun q=>hij q.symm),if_neg (fun q=>hij q.symm),←Int.mul_assoc,←Int.mul_assoc,e]
 congr 1
 refine kN n fun k _=>?_
 by_cases o:k=j
 ·rw [if_pos o,if_pos o]
 ·rw [if_neg o,if_neg o]
  by_cases H:k=i
  ·rw [if_pos H,if_pos H]
  ·rw [if_neg H,if_neg H,h k H o]
theorem EG (a b:Int):a∣(Int.lcm a b:Int):=Int.natAbs_dvd_natAbs.1 (by rw [Int.natAbs_natCast];exact Nat.dvd_lcm_left _ _)
structure Kps (m:Nat)(f g:Nat→Int):Prop where
 nn:∀k,k<m→0≤g k
 pr:pd m g=pd m f
 pn:(pd m fun k=>nz (g k))=pd m fun k=>nz (f k)
section
variable {m i j:Nat}{f g:Nat→Int}
theorem Kps.step (h:Kps m f g)(hi:i<m)(hj:j<m)(hij:i≠j):Kps m f (fS g i j):=by
 have J:fS g i j i=(Int.gcd (g i) (g j):Int):=if_pos rfl
 have I:fS g i j j=(Int.lcm (g i) (g j):Int):=by unfold fS;rw [if_neg (fun q=>hij q.symm),if_pos rfl]
 have U:∀k,k≠i→k≠j→fS g i j k=g k:=fun k o H=>by unfold fS;rw [if_neg o,if_neg H]
 refine⟨fun k hk=>?_,(CF hi hj hij U (by rw [J,I];exact DJ (h.nn i hi) (h.nn j hj))).trans h.pr,(CF (f:=fun k=>nz (g k)) hi hj hij (fun k o H=>by rw [U k o H]) (by rw [J,I];exact MC (h.nn i hi) (h.nn j hj))).trans h.pn⟩
 unfold fS
 split
 ·omega
 ·split
  ·omega
  ·exact h.nn k hk
def rV (m i:Nat)(g:Nat→Int):Prop:=∀l k,l<i→l<k→k<m→g l∣g k
theorem Q4 (h:rV m i g)(hij:i<j)(hj:j<m):rV m i (fS g i j):=fun l k hl o I=>by
 have J:fS g i j l=g l:=by unfold fS;rw [if_neg (by omega),if_neg (by omega)]
 rw [J]
 unfold fS
 have H:=h l i hl hl (by omega)
 have U:=h l j hl (by omega) hj
 split
 ·exact Int.dvd_coe_gcd H U
 ·split
  ·exact Int.dvd_trans H (EG _ _)
  ·exact h l k hl o I
theorem yO (h:Kps m f g)(hc:rV m i g)(hi:i<m):∀t,i+t<m→Kps m f (gN g i t)∧rV m i (gN g i t)∧∀k,i<k→k≤i+t→gN g i t i∣gN g i t k
 | 0,_=>⟨h,hc,fun k h1 h2=>by omega⟩
 | t+1,ht=>by
  obtain⟨h1,h2,h3⟩:=yO h hc hi t (by omega)
  refine⟨h1.step hi (by omega) (by omega),Q4 h2 (by omega) (by omega),fun k o _=>?_⟩
  have H:gN g i (t+1) i=(Int.gcd (gN g i t i) (gN g i t (i+1+t)):Int):=if_pos rfl
  rw [H]
  show _∣fS (gN g i t) i (i+1+t) k
  unfold fS
  rw [if_neg (by omega)]
  split
  ·exact Int.dvd_trans (Int.gcd_dvd_left _ _) (EG _ _)
  ·exact Int.dvd_trans (Int.gcd_dvd_left _ _) (h3 k o (by omega))
theorem u9 (h0:∀k,k<m→0≤f k):∀i,i≤m→Kps m f (i8 f m i)∧rV m i (i8 f m i)
 | 0,_=>⟨⟨h0,rfl,rfl⟩,fun l k hl=>absurd hl (Nat.not_lt_zero l)⟩
 | i+1,hi=>by
  obtain⟨h1,h2⟩:=u9 h0 i (by omega)
  obtain⟨J,H,I⟩:=yO h1 h2 (show i<m by omega) (m-(i+1)) (by omega)
  refine⟨J,fun l k hl h o=>?_⟩
  by_cases e:l=i
  ·subst e;exact I k h (by omega)
  ·exact H l k (by omega) h o
end
end
section
open Go.RowKit
theorem AP {Q:Exit→Act→a0→Prop}{x y:Operand}{k:IntKind}{b:Int}(hw:cZ ops l gd=some true)(hx:bT l x=some (.int k a))(hy:bT l y=some (.int k b))(c:Int)(hc:min a b=c)(hn:d<n)(h:wl P ops Q n rest ((d,.int k c)::l) w):wl P ops Q n (⟨some d,.call {callee:= .builtin .min,args:= #[x,y],argTypes:=ts},ty,pos,af,gd⟩::rest) l w:=by
 refine fP hw hn (fun a' o=>?_) h
 have e:(if b<a then b else a)=c:=by rw [←hc];split <;> omega
 unfold execOp
 simp only [resolve,invoke,builtin,Sem.run_bind,Sem.run_pure,Result.andThen_ok,List.map_toArray,List.map_cons,List.map_nil,o.ev hx,o.ev hy,Builtin.min_,List.foldlM,Builtin.min2,e]
theorem LV (hz:∀a b,a<i→b<cc→a≠b→X a b=0)(hy:∀b,b<cc→i≠b→X i b=0):∀a b,a<i+1→b<cc→a≠b→X a b=0:=fun a b _ o h=>by
 by_cases e:a=i
 ·subst e;exact hy b o h
 ·exact hz a b (by omega) o h
theorem PK (hz:∀a,a<i→zs.getD a 0=X a a)(hi:i<zs.length)(hx:x=X i i):∀a,a<i+1→(zs.set i x).getD a 0=X a a:=fun a _=>by
 rw [jM hi]
 by_cases e:a=i
 ·rw [if_pos e,hx,e]
 ·rw [if_neg e];exact hz a (by omega)
theorem N4 (hxa:ZF w Aa na capa 17179869184 xs)(hna:na=n*cc)(hn:n≤64)(hcc:cc≤64)(hX:En n cc X xs):aR aJ 55 #[.agg #[AI n,AI cc,By Aa na capa]] w (Gv w (fun v _=>∃b,v= .bool b∧(b=true↔eP n cc X))):=by
 obtain⟨msa,ao,aj⟩:=hxa
 refine bQ Tryz.func55 G (n:=34) G (bq G) (args:= [.agg #[AI n,AI cc,By Aa na capa]]) (bH [(0,.agg #[AI n,AI cc,By Aa na capa])] ⟨rfl,Ht⟩ (sr (bx [AI n,AI cc,By Aa na capa] aB G G G fun H v2 aq _ _ o=>(mv 1 G (aE (aH (sr (pf H 0 G (aK G G (aQ bV aq G) (mv 1 G (aE (bB ?_))))))))))))
 refine d6 (T:=a0×Nat) (fun⟨wr,i⟩=> [(0,.agg #[AI n,AI cc,By Aa na capa]),(1,a9 H 0),(2,Hs),(5,a9 H 0),(6,AI n),(7,AI i)]) (fun⟨wr,i⟩=>wr) (fun⟨wr,i⟩=>(Ext w wr)∧(i≤n)∧(Bk wr H 24 [AI n,AI cc,By Aa na capa])∧(∀a b,a<i→b<cc→a≠b→X a b=0)) (fun⟨wr,i⟩=>n-i)
  (⟨v2,0⟩:a0×Nat) ⟨o,(by omega),aq,(fun a b h=>absurd h (Nat.not_lt_zero a))⟩ G ⟨rfl,rfl,rfl,rfl,rfl,rfl,Ht⟩ ?_
 rintro⟨wr,i⟩ ⟨o,_,b_g1,hz⟩
 refine d4 [(0,.agg #[AI n,AI cc,By Aa na capa]),(1,a9 H 0),(2,Hs),(5,a9 H 0),(6,AI n),(7,AI i)] wr G ⟨rfl,rfl,rfl,rfl,rfl,rfl,Ht⟩ (aH ?_)
 by_cases J:i<n
 ·refine aL (aN G G G true (dB (a:=i) (b:=n) G G) (aE (aH (bJ G (bA (aM (aH (bB (sr (mv 2 G (aE (sr (pf H 1 G ?_)))))))))))))
  refine aK G G (aQ bV b_g1 G) (mv 1 G (aE (bB ?_)))
  refine d6 (T:=a0×Nat) (fun⟨wi,j⟩=> [(0,.agg #[AI n,AI cc,By Aa na capa]),(1,a9 H 0),(2,Hs),(3,AI i),(5,a9 H 0),(6,AI n),(7,AI i),(8,BY),(9,AI i),(10,a9 H 1),(11,AI cc),(12,AI j)]) (fun⟨wi,j⟩=>wi) (fun⟨wi,j⟩=>(Ext w wi)∧(j≤cc)∧(Bk wi H 24 [AI n,AI cc,By Aa na capa])∧(∀b,b<j→i≠b→X i b=0)) (fun⟨wi,j⟩=>cc-j)
   (⟨wr,0⟩:a0×Nat) ⟨o,(by omega),b_g1,(fun b h=>absurd h (Nat.not_lt_zero b))⟩ G ⟨rfl,rfl,rfl,rfl,rfl,rfl,rfl,rfl,rfl,rfl,rfl,rfl,Ht⟩ ?_
  rintro⟨wi,j⟩ ⟨o,_,b_g1,hy⟩
  refine d4 [(0,.agg #[AI n,AI cc,By Aa na capa]),(1,a9 H 0),(2,Hs),(3,AI i),(5,a9 H 0),(6,AI n),(7,AI i),(8,BY),(9,AI i),(10,a9 H 1),(11,AI cc),(12,AI j)] wi G ⟨rfl,rfl,rfl,rfl,rfl,rfl,rfl,rfl,rfl,rfl,rfl,rfl,Ht⟩ (aH ?_)
  by_cases U:j<cc
  ·refine aL (aN G G G true (dB (a:=j) (b:=cc) G G) (aE (aH (bJ G (bA (aM (aH (bB (sr (mv 2 G (aE (aH ?_))))))))))))
   have cd:=xO J U
   have bv:=iJ (show i≤64 by omega) hcc
   by_cases ba:i≠j
   ·by_cases I:X i j=0
    ·refine aL (mv 2 G (aN G G G true (nU (a:=i) (b:=j) G G) (mv 1 G (pf H 2 G (aK G G (aQ cD b_g1 G) (mv 1 G (pf H 1 G (aK G G (aQ bV b_g1 G) (bC G G G ((i*cc:Nat):Int) (kE (a:=i) (b:=cc) G G) (mv 1 G (bC G G G (((i*cc)+j:Nat):Int) (bW (a:=i*cc) (b:=j) G G) ?_)))))))))))
     obtain⟨az,bo,bc,bj,ag,av,bi⟩:=ao.at (i:=(i*cc)+j) (by omega)
     refine aX G G G bM aG.size ((i*cc)+j) G az ag (aK G G (av _ o _ _ aG) (cl (vs:= [.agg #[.bool bo,By bc (msa.getD ((i*cc)+j) 0) bj]]) o (f8 (bi.ext o) (a7 (aj ((i*cc)+j)) (by decide))) G (by kernel_rfl) fun _ v7 r9 e8 ac=>?_))
     obtain rfl:=r9
     refine aN G G G false (pY (by rw [hX i j J U];exact I)) (pu (v:= Hs) G (aE (aY G (bA (cC (aM (aL (bC G G G ((j+1:Nat):Int) (bW (a:=j) (b:=1) G G) (mv 1 G (aS (cB (⟨v7,j+1⟩:a0×Nat) ⟨ac,(by omega),(b_g1.ext e8),(fun b h1 h2=>if h9:b<j then hy b h9 h2 else (show j=b by omega)▸I)⟩ (show cc-(j+1)<cc-j by omega) G ⟨rfl,rfl,rfl,rfl,rfl,rfl,rfl,rfl,rfl,rfl,rfl,rfl,Ht⟩)))))))))))
    ·refine aL (mv 2 G (aN G G G true (nU (a:=i) (b:=j) G G) (mv 1 G (pf H 2 G (aK G G (aQ cD b_g1 G) (mv 1 G (pf H 1 G (aK G G (aQ bV b_g1 G) (bC G G G ((i*cc:Nat):Int) (kE (a:=i) (b:=cc) G G) (mv 1 G (bC G G G (((i*cc)+j:Nat):Int) (bW (a:=i*cc) (b:=j) G G) ?_)))))))))))
     obtain⟨ar,ak,ai,ah,aa,ae,au⟩:=ao.at (i:=(i*cc)+j) (by omega)
     refine aX G G G bM aG.size ((i*cc)+j) G ar aa (aK G G (ae _ o _ _ aG) (cl (vs:= [.agg #[.bool ak,By ai (msa.getD ((i*cc)+j) 0) ah]]) o (f8 (au.ext o) (a7 (aj ((i*cc)+j)) (by decide))) G (by kernel_rfl) fun _ _ bg _ ac=>?_))
     obtain rfl:=bg
     refine aN G G G true (pX (by rw [hX i j J U];exact I)) (pu (v:= BY) G (aE (bJ G (sr (mv 1 G (aE (bG (kQ (dZ (qX (kQ (kQ (dZ ?_)))))))))))))
     refine qX (kQ (dZ (bF [F0] G ⟨rfl,Ht⟩ ?_)))
     exact⟨_,rfl,⟨false,rfl,fun h=>(by cases h),fun h=>absurd (h i j J U ba) I⟩,ac⟩
   ·refine aL (mv 2 G (aN G G G false (kC (a:=i) (b:=j) G G) (mv 13 G (pu (v:= Hs) G (aE (aY G (bA (cC (aM (aL (bC G G G ((j+1:Nat):Int) (bW (a:=j) (b:=1) G G) (mv 1 G (aS ?_)))))))))))))
    refine cB (⟨wi,j+1⟩:a0×Nat) ⟨o,(by omega),b_g1,(fun b h1 h2=>if h9:b<j then hy b h9 h2 else (show j=b by omega)▸absurd (show i=b by omega) h2)⟩ (show cc-(j+1)<cc-j by omega) G ⟨rfl,rfl,rfl,rfl,rfl,rfl,rfl,rfl,rfl,rfl,rfl,rfl,Ht⟩
  ·refine aL (aN G G G false (dK (a:=j) (b:=cc) G G) (aE (aH (aY G (cM (cK (cT (cL (cC (aM (aL (bC G G G ((i+1:Nat):Int) (bW (a:=i) (b:=1) G G) (mv 1 G ?_)))))))))))))
   refine aS (cB (⟨wi,i+1⟩:a0×Nat) ⟨o,(by omega),b_g1,(LV hz (fun b hb ab=>hy b (by omega) ab))⟩ (show n-(i+1)<n-i by omega) G ⟨rfl,rfl,rfl,rfl,rfl,rfl,Ht⟩)
 ·refine aL (aN G G G false (dK (a:=i) (b:=n) G G) (aE (aH (aY G (cM (cK (cT (cL (aM (sr (mv 1 G (aE (bG ?_)))))))))))))
  refine bF [BY] G ⟨rfl,Ht⟩ ?_
  exact⟨_,rfl,⟨true,rfl,fun _ a b _ hb ab=>hz a b (by omega) hb ab,fun _=>rfl⟩,o⟩
theorem DV (hb:b≤w.heap.size)(hlb:lb≤w.heap.size){mm:Nat}(hmm:mm=min n cc)(hxa:ZF w Aa na capa 17179869184 xs)(hna:na=n*cc)(hn:n≤64)(hcc:cc≤64)(hX:En n cc X xs):aR aJ 37 #[.agg #[AI n,AI cc,By Aa na capa]] w (Gv w (LQ none 17179869184 b lb mm (fun zs=>∀a,a<mm→zs.getD a 0=X a a))):=by
 obtain⟨msa,cn,bh⟩:=hxa
 refine bQ Tryz.func37 G (n:=32) G (bq G) (args:= [.agg #[AI n,AI cc,By Aa na capa]]) (bH [(0,.agg #[AI n,AI cc,By Aa na capa])] ⟨rfl,Ht⟩ (sr (bx [AI n,AI cc,By Aa na capa] aB G G G fun I _ ac _ _ o=>(mv 1 G (aE (sr (pf I 0 G (aK G G (aQ bV ac G) (pf I 1 G (aK G G (aQ bV ac G) (AP G G G (((mm:Nat):Int)) (by omega) (by decide) (sL (k:=mm) none 17179869184 w.heap.size G G G fun H v7 aw au bo=>?_))))))))))))
 have df:I<H:=by rw [←aw];exact ac.lt
 have aj:H≤v7.heap.size:=by have:=(au.block _ G).2;exact Nat.le_of_lt this
 have ar:w.heap.size≤H:=by rw [←aw];exact o.size
 clear aw
 have ah:=o.trans bo
 have aq:=au.block
 refine mv 1 G (aE (aH (sr (mv 1 G (pu (v:= AI mm) G (mv 1 G (aE (bB ?_))))))))
 refine d6 (T:=a0×Nat×List Int) (fun⟨wr,i,zs⟩=> [(0,.agg #[AI n,AI cc,By Aa na capa]),(1,a9 I 0),(2,By none 0 0),(3,By (some ⟨H,0,none⟩) mm mm),(5,a9 I 0),(6,AI n),(7,a9 I 1),(8,AI cc),(9,AI mm),(10,By (some ⟨H,0,none⟩) mm mm),(11,By (some ⟨H,0,none⟩) mm mm),(12,AI mm),(13,AI i)]) (fun⟨wr,i,zs⟩=>wr) (fun⟨wr,i,zs⟩=>(Ext w wr)∧(i≤mm)∧(Bk wr I 24 [AI n,AI cc,By Aa na capa])∧(H≤wr.heap.size)∧(Lz none 17179869184 w.heap.size wr H (some ⟨H,0,none⟩) mm mm zs)∧(∀p:a6,(some ⟨H,0,none⟩)=some p→p.block≠I)∧(∀a,a<i→zs.getD a 0=X a a)) (fun⟨wr,i,zs⟩=>mm-i)
  (⟨v7,0,dL mm 0⟩:a0×Nat×List Int) ⟨ah,(by omega),(ac.ext bo),aj,au,(show∀p:a6,(some ⟨H,0,none⟩)=some p→p.block≠I from fun p hp=>by have:=aq p hp;omega),(fun a h=>absurd h (Nat.not_lt_zero a))⟩ G ⟨rfl,rfl,rfl,rfl,rfl,rfl,rfl,rfl,rfl,rfl,rfl,rfl,rfl,Ht⟩ ?_
 rintro⟨wr,i,zs⟩ ⟨o,_,b_g1,l_someg60noneb,l_someg60none,l_someg60none_g1,hz⟩
 refine d4 [(0,.agg #[AI n,AI cc,By Aa na capa]),(1,a9 I 0),(2,By none 0 0),(3,By (some ⟨H,0,none⟩) mm mm),(5,a9 I 0),(6,AI n),(7,a9 I 1),(8,AI cc),(9,AI mm),(10,By (some ⟨H,0,none⟩) mm mm),(11,By (some ⟨H,0,none⟩) mm mm),(12,AI mm),(13,AI i)] wr G ⟨rfl,rfl,rfl,rfl,rfl,rfl,rfl,rfl,rfl,rfl,rfl,rfl,rfl,Ht⟩ ?_
 have ak:=l_someg60none.block
 refine aH ?_
 by_cases cf:i<mm
 ·refine aL (aN G G G true (dB (a:=i) (b:=mm) G G) (aE (aH (bJ G (bA (aM (aH (bB (sr (mv 2 G (aE ?_)))))))))))
  have dd:=xO (show i<n by omega) (show i<cc by omega)
  have dc:=iJ (show i≤64 by omega) hcc
  refine aL (mv 2 G (pf I 2 G (aK G G (aQ cD b_g1 G) (mv 1 G (pf I 1 G (aK G G (aQ bV b_g1 G) (bC G G G ((i*cc:Nat):Int) (kE (a:=i) (b:=cc) G G) (mv 1 G (bC G G G (((i*cc)+i:Nat):Int) (bW (a:=i*cc) (b:=i) G G) ?_)))))))))
  obtain⟨az,bw,bg,bu,av,ao,ag⟩:=cn.at (i:=(i*cc)+i) (by omega)
  refine aX G G G bM aG.size ((i*cc)+i) G az av (aK G G (ao _ o _ _ aG) (cl (vs:= [.agg #[.bool bw,By bg (msa.getD ((i*cc)+i) 0) bu]]) o (nP o.size (ag.ext o) (a7 (bh ((i*cc)+i)) (by decide))) G (by kernel_rfl) fun _ _ cd ab ah=>?_))
  obtain⟨cm,co,cg,cu,rfl,ba⟩:=cd
  obtain⟨bz,_,_,_,_,U,_,ai,bv⟩:=((l_someg60none.ext ab)).at (i:=i) (by omega)
  have bc:=bv.zr
  have cx:ln (zs.getD i 0)≤17179869184:=bc.ln_le ai
  refine aX G G G bM aG.size i G bz U ?_
  have ae:=(l_someg60none.ext ab)
  obtain⟨_,_⟩:=ae.own
  refine kL (e:=⟨cm,co,cg,cu⟩) (z:=(xs.getD ((i*cc)+i) 0)) G G G U ae (bE ba) (ba.le (a7 (a7 ag.ln (bh ((i*cc)+i))) (by decide))) fun bi bj J=>?_
  have ce:=J.ext ah (fun p hp=>by have:=ak p hp;omega)
  have aa:H≤bi.heap.size:=a7 (a7 l_someg60noneb ab.size) J.size
  refine aS (cC (aM (aL (bC G G G ((i+1:Nat):Int) (bW (a:=i) (b:=1) G G) (mv 1 G (aS (cB (⟨bi,i+1,zs.set i (xs.getD ((i*cc)+i) 0)⟩:a0×Nat×List Int) ⟨ce,(by omega),((b_g1.ext ab).updO J l_someg60none_g1),aa,bj,l_someg60none_g1,(PK hz (by rw [l_someg60none.len];exact cf) (hX i i (by omega) (by omega)))⟩ (show mm-(i+1)<mm-i by omega) G ⟨rfl,rfl,rfl,rfl,rfl,rfl,rfl,rfl,rfl,rfl,rfl,rfl,rfl,Ht⟩)))))))
 ·refine aL (aN G G G false (dK (a:=i) (b:=mm) G G) (aE (aH (aY G (cM (cK (cT (cL (aM (sr (mv 2 G (aE (bG ?_)))))))))))))
  refine bF [By (some ⟨H,0,none⟩) mm mm] G ⟨rfl,Ht⟩ ?_
  exact⟨_,rfl,⟨_,_,_,rfl,(l_someg60none).mono (aI _) hb (a7 hlb ar),(fun a _=>hz a (by omega))⟩,o⟩
end
end Go.Proofs.YtnpbbknemflpnaaGreat
