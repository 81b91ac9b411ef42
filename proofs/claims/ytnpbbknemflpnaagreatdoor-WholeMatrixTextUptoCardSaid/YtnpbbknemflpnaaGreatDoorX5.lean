/- Parts Pr3, Smr, Wmt, joined. -/
import Derived.Test.YtnpbbknemflpnaaGreatDoorX4

open Go renaming Addr → a8, Calls → aU, World → a6
open List renaming length_append → cK, length_cons → cS, mem_append → eQ
open Nat renaming le_refl → aZ, le_trans → aN, lt_of_lt_of_le → cU, lt_trans → kQ
open Go.Proofs.Tryz renaming prog → aG
namespace Go.Proofs.YtnpbbknemflpnaaGreatDoor
set_option maxHeartbeats 4000000
set_option maxRecDepth 20000
variable {Aa Ap At KA NA:Option a8}{C Kp Kt R bp bt capa cp ct lbp lbt n na r:Nat}{a c:List Nat}{w:a6}{xs zs zsp zst:List Int}
open Go.RowKit
theorem ME (hm:Mxl w)(hS:Signs w)(hR':R≤64)(hC:C≤64)(hzl:zs.length=R*C)(hK:∀z,z∈zs→ln z≤1048576){bN nc kc:Nat}(hN:Own w bN 40 3 NA 2 nc (gF (bR (aT 10) R C zs) KA kc))(hKo:Own w bN 3 1 KA 1 kc [a4 0]):aU aG 12 #[a9 NA 2 nc] w (Gv w (T2 (Is (.string (aB ([112,114,105,110,116,32]++bR (aT 10) R C zs)))) (Is (a4 0)))):=by
 refine bJ Tryz.func12 E (n:=28) E (bq E) (args:= [a9 NA 2 nc]) (bH [(0,a9 NA 2 nc)] ⟨rfl,i3⟩ (sr (mv 2 E (a7 (aD (sr (mv 1 E (pu (v:= a4 2) E (aA E E E false (by decide) (a7 (aI E (aY (aJ ?_)))))))))))))
 refine aD (sr (mv 1 E (cl (vs:= [a9 NA 2 nc]) aF (M6 (hm.ext aF) (hS.ext aF) hR' hC hzl hK (hN) (hKo)) E (by kernel_rfl) fun _ _ Y D j=>?_)))
 obtain rfl:=Y
 refine pu (v:= ik) E (a7 (aI E (aY (aJ (sr (mv 1 E (pu (v:= .agg #[a9 NA 2 nc,.pointer none,S0,I0,I0]) E (iE E E (vs:= [a9 NA 2 nc,.pointer none,S0,I0,I0]) E fun g v4 nb=>?_))))))))
 have O:=nb.bk
 have W:w.heap.size≤g:=by rw [←nb.at_];exact j.size
 have r:∀p:a8,NA=some p→p.block<g:=fun p e=>by have:=(((hN.ext D)).block p e).2;have:=nb.at_;omega
 have aa:∀p:a8,NA=some p→p.block≠g:=fun p e=>Nat.ne_of_lt (r p e)
 have o:∀p:a8,KA=some p→p.block<g:=fun p e=>by have:=(((hKo.ext D)).block p e).2;have:=nb.at_;omega
 have Z:∀p:a8,KA=some p→p.block≠g:=fun p e=>Nat.ne_of_lt (o p e)
 have H:=nb.ext
 clear nb
 have h:=j.trans H
 have U:WrB v4 g w.heap.size (a9 NA 2 nc) []:=⟨none,0,0,_,O,Or.inl rfl,Own.nil _ _ _ _,rfl,W⟩
 have X:∀p:a8,NA=some p→p.block≠g:=fun p e=>by have:=(hN.block p e).2;omega
 have V:∀p:a8,KA=some p→p.block≠g:=fun p e=>by have:=(hKo.block p e).2;omega
 refine mv 1 E (a7 (sr (mv 2 E (pu (v:= a4 2) E (bF E E E 1 (show dD .sub .i64 2 1=some 1 by decide) ?_)))))
 have ae:=rB hzl hR' hC hK
 refine bC E E (vs:= [a1 g 0,a4 1]) (by kernel_rfl) (by decide) (LJ U h.size ((hN.ext (D.t H))) ((hKo.ext (D.t H))) X V (fun b hb=>kQ (m8 gK b hb) (by decide)) (by simp only [List.length_nil];omega)) ?_
 rintro _ _ ⟨rfl,F,f⟩
 refine bB ?_
 have M:=F.toExt h (aZ _)
 refine a7 (aD (sr (mv 1 E (pf g 0 E (pf g 4 E (aH E E (cO (fun _=>by kernel_rfl) f.most) (aA E E E false (by decide) (a7 (aI E (aY (aJ (sr (mv 1 E ?_)))))))))))))
 refine pf g 0 rfl (pf g 1 rfl (bC rfl rfl (vs:= [.pointer (some ⟨g,1,none⟩)]) (by kernel_rfl) (by decide) (MC f M (aZ _) (fun x q=>by rcases eQ.1 q with q | q;(· exact (show∀x,x∈(([]++ [112,114,105,110,116])++ [32]:List Nat)→x<256 by decide) x q);(· exact (fun b hb=>kQ (m8 gK b hb) (by decide)) x q)) (List.cons_ne_nil _ _) (by simp only [cK,cS,List.length_nil];omega)) ?_))
 rintro _ _ ⟨rfl,L⟩
 refine bB ?_
 have I:=L
 refine mv 2 E (a7 (aW (aV [.string (aB ((([]++ [112,114,105,110,116])++ [32])++bR (aT 10) R C zs)),I0] E ⟨rfl,rfl,i3⟩ ?_)))
 exact⟨_,rfl,⟨_,_,rfl,rfl,rfl⟩,I⟩
theorem KV (hlp:Lz none Kp bp w lbp Ap n cp zsp)(hlbp:lbp≤w.heap.size)(hlt:Lz none Kt bt w lbt At n ct zst)(hlbt:lbt≤w.heap.size)(hn:n≤1048576)(he:∀i,i<n→zsp.getD i 0=zst.getD i 0):aU aG 26 #[a9 Ap n cp,a9 At n ct] w (Gv w (Is (gx))):=by
 refine bJ Tryz.func26 E (n:=27) E (bq E) (args:= [a9 Ap n cp,a9 At n ct]) ?_
 have ao:=hlp.block
 have ar:=hlt.block
 refine bH [(0,a9 Ap n cp),(1,a9 At n ct)] ⟨rfl,rfl,i3⟩ (sr (mv 1 E (a7 (aD (sr (mv 1 E (pu (v:= a4 n) E (mv 1 E (pu (v:= a4 n) E (aA E E E false (lJ (a:=n) (b:=n) E E) (a7 (aI E (aY ?_)))))))))))))
 refine aJ (aD (sr (mv 1 E (a7 (bI ?_)))))
 refine dJ (T:=a6×Nat) (fun⟨wr,i⟩=> [(0,a9 Ap n cp),(1,a9 At n ct),(4,ik),(5,a4 i),(6,a9 Ap n cp),(7,a4 n),(8,a9 At n ct),(9,a4 n),(10,ik)]) (fun⟨wr,i⟩=>wr) (fun⟨wr,i⟩=>(Ext w wr)∧(i≤n)∧(lbp≤wr.heap.size)∧(Lz none Kp bp wr lbp Ap n cp zsp)∧(lbt≤wr.heap.size)∧(Lz none Kt bt wr lbt At n ct zst)) (fun⟨wr,i⟩=>n-i)
  (⟨w,0⟩:a6×Nat) ⟨aF,(by omega),hlbp,hlp,hlbt,hlt⟩ E ⟨rfl,rfl,rfl,rfl,rfl,rfl,rfl,rfl,rfl,i3⟩ ?_
 rintro⟨wr,i⟩ ⟨j,_,l_Apb,l_Ap,l_Atb,l_At⟩
 refine d9 [(0,a9 Ap n cp),(1,a9 At n ct),(4,ik),(5,a4 i),(6,a9 Ap n cp),(7,a4 n),(8,a9 At n ct),(9,a4 n),(10,ik)] wr E ⟨rfl,rfl,rfl,rfl,rfl,rfl,rfl,rfl,rfl,i3⟩ ?_
 have aq:=l_Ap.block
 have ap:=l_At.block
 refine aD (aD ?_)
 by_cases ag:i<n
 ·refine aE (mv 2 E (pu (v:= a4 n) E (aA E E E true (d5 (a:=i) (b:=n) E E) (a7 (b8 E (aY (aJ (aD (bI (aD ?_))))))))))
  obtain⟨o,M,V,F,O,I,L,r,ah⟩:=(l_Ap).at (i:=i) (by omega)
  have p:=ah.zr
  have av:ln (zsp.getD i 0)≤Kp:=p.ln_le r
  obtain⟨D,Z,H,U,X,q,aa,Y,ai⟩:=(l_At).at (i:=i) (by omega)
  have W:=ai.zr
  have au:ln (zst.getD i 0)≤Kt:=W.ln_le Y
  refine fG eR 10 [] [Is (a9 Ap n cp),Is (a4 i),Is (.pointer (some o)),Is (G M V F O),Is (a9 At n ct),Is (a4 i),Is (.pointer (some D)),Is (G Z H U X),Is (gx),Is (ik)] [[],[],[0,1],[2],[],[],[4,5],[6],[3,7],[8]] [[],[],[0,1],[0,1,2],[],[],[4,5],[4,5,6],[0,1,2,3,4,5,6,7],[0,1,2,3,4,5,6,7,8]] rfl
   (aP E E (aK E E ?_) (aP E E (aK E E ?_) (aP E E (aK E E ?_) (aP E E (aK E E ?_) (aP E E (aK E E ?_) (aP E E (aK E E ?_) (aP E E (aK E E ?_) (aP E E (aK E E ?_) (aP E E (aK E E ?_) (aP E E (aK E E ?_) fE)))))))))) ?_
  ·exact fun _ _=>aL (mv 1 E (aO E aF E))
  ·exact fun _ _=>aL (mv 1 E (aO E aF E))
  ·exact fun _ _=>dk E E (dk E E (aL (cG E E E kG eB.size i E o I (aO E aF E))))
  ·exact fun _ ab=>dk E E (aL (aH E E (L _ ab _ _ eB) (aO E aF E)))
  ·exact fun _ _=>aL (mv 1 E (aO E aF E))
  ·exact fun _ _=>aL (mv 1 E (aO E aF E))
  ·exact fun _ _=>dk E E (dk E E (aL (cG E E E kG eB.size i E D q (aO E aF E))))
  ·exact fun _ ae=>dk E E (aL (aH E E (aa _ ae _ _ eB) (aO E aF E)))
  ·intro _ h
   have f:=j.trans h
   refine dk E E (dk E E (aL (cl (vs:= [G M V F O,G Z H U X]) f (KW (p.ext h) (((W.ext h)).cast (he i ag).symm)) E (by kernel_rfl) fun _ _ aj ak _=>?_)))
   obtain rfl:=aj
   exact aO E ak rfl
  ·exact fun _ _=>dk E E (aL (pu (v:= ik) E (aO E aF E)))
  ·intro am e
   have f:=j.trans e
   refine dk E E (dk E E (dk E E (dk E E (dk E E (dk E E (dk E E (dk E E (dk E E (dk E E (aL (bA (fF (aJ ?_)))))))))))))
   refine aI E (aY (bU (aJ (aE (mv 1 E (bF E E E ((i+1:Nat):Int) (d6 (a:=i) (b:=1) E E) (mv 1 E (bA (cW (⟨am,i+1⟩:a6×Nat) ⟨f,(by omega),(aN l_Apb e.size),(l_Ap.ext e),(aN l_Atb e.size),(l_At.ext e)⟩ (show n-(i+1)<n-i by omega) E ⟨rfl,rfl,rfl,rfl,rfl,rfl,rfl,rfl,rfl,i3⟩)))))))))
 ·refine aE (mv 2 E (pu (v:= a4 n) E (aA E E E false (f8 (a:=i) (b:=n) E E) (a7 (aI E (dA (d7 (dG (d8 (aJ (sr (mv 1 E (bA ?_)))))))))))))
  refine aJ (aW (aV [gx] E ⟨rfl,i3⟩ ?_))
  exact⟨_,rfl,rfl,j⟩
theorem KX {c:Nat}(hlp:Lz none Kp bp w lbp Ap (r*c) cp zsp)(hlbp:lbp≤w.heap.size)(hlt:Lz none Kt bt w lbt At (r*c) ct zst)(hlbt:lbt≤w.heap.size)(hr:r≤64)(hc:c≤64)(he:∀i,i<r*c→zsp.getD i 0=zst.getD i 0):aU aG 10 #[.agg #[a4 r,a4 c,a9 Ap (r*c) cp],.agg #[a4 r,a4 c,a9 At (r*c) ct]] w (Gv w (Is (gx))):=by
 have ag:=lC hr hc
 refine bJ Tryz.func10 E (n:=28) E (bq E) (args:= [.agg #[a4 r,a4 c,a9 Ap (r*c) cp],.agg #[a4 r,a4 c,a9 At (r*c) ct]]) ?_
 have V:=hlp.block
 have Z:=hlt.block
 refine bH [(0,.agg #[a4 r,a4 c,a9 Ap (r*c) cp]),(1,.agg #[a4 r,a4 c,a9 At (r*c) ct])] ⟨rfl,rfl,i3⟩ (sr (iE E E (vs:= [a4 r,a4 c,a9 Ap (r*c) cp]) E fun F _ nb=>?_))
 have o:=nb.bk
 have ah:w.heap.size≤F:=by rw [←nb.at_];exact (Ext.refl w).size
 have aa:∀p:a8,Ap=some p→p.block≠F:=fun p q=>by have:=(hlp).block p q;have:=nb.at_;omega
 have ae:∀p:a8,At=some p→p.block≠F:=fun p q=>by have:=(hlt).block p q;have:=nb.at_;omega
 have D:=nb.ext
 clear nb
 have H:=(Ext.refl w).trans D
 refine iE E E (vs:= [a4 r,a4 c,a9 At (r*c) ct]) E fun h _ nb=>?_
 have j:=nb.bk
 have W:w.heap.size≤h:=by rw [←nb.at_];exact H.size
 have ab:F<h:=by rw [←nb.at_];exact o.lt
 have Y:∀p:a8,Ap=some p→p.block≠h:=fun p q=>by have:=((hlp.ext D)).block p q;have:=nb.at_;omega
 have X:∀p:a8,At=some p→p.block≠h:=fun p q=>by have:=((hlt.ext D)).block p q;have:=nb.at_;omega
 have f:=nb.ext
 clear nb
 have M:=H.trans f
 refine mv 1 E (a7 (sr (lo dP (o.ext f) [a4 r,a4 c,a9 Ap (r*c) cp] E E E (cl (vs:= [.agg #[a4 r,a4 c,a9 Ap (r*c) cp]]) M (BI (FV hr hc E)) E (by kernel_rfl) fun _ _ O e L=>?_))))
 obtain rfl:=O
 refine mv 1 E (pf F 0 E (aH E E (aS bL (o.ext (f.t e)) E) (pf h 0 E (aH E E (aS bL (j.ext e) E) (aA E E E true (dB (a:=r) (b:=r) E E) (pu (v:= gx) E (mv 1 E (pf F 1 E (aH E E (aS bL (o.ext (f.t e)) E) (pf h 1 E (aH E E (aS bL (j.ext e) E) (aA E E E true (dB (a:=c) (b:=c) E E) (pu (v:= gx) E ?_)))))))))))))
 refine mv 1 E (pf F 2 E (aH E E (aS jS (o.ext (f.t e)) E) (pf h 2 E (aH E E (aS jS (j.ext e) E) (cl (vs:= [a9 Ap (r*c) cp,a9 At (r*c) ct]) L (KV (hlp.ext (D.t (f.t e))) (aN (aN (aN hlbp D.size) f.size) e.size) (hlt.ext (D.t (f.t e))) (aN (aN (aN hlbt D.size) f.size) e.size) (by omega) he) E (by kernel_rfl) fun _ _ U _ I=>?_)))))
 obtain rfl:=U
 refine pu (v:= gx) E (mv 1 E (a7 (aW (aV [gx] E ⟨rfl,i3⟩ ?_))))
 exact⟨_,rfl,rfl,I⟩
theorem xT:bR (aT 10) 2 2 [2,4,6,8]= [91,50,32,52,59,32,54,32,56,93]:=by decide+kernel
theorem nM:∀b,b∈bR (aT 10) R C zs→b<256:=fun b hb=>kQ (m8 gK b hb) (by decide)
theorem AF (h:∀b,b∈a→b<256)(k:∀b,b∈c→b<256):∀b,b∈a++c→b<256:=fun b hb=>(eQ.1 hb).elim (h b) (k b)
theorem L4 (hS:Signs w){R C:Int}(hxa:ZF w Aa na capa 1048576 xs)(hna1:na≤1048576)(hs:¬jV R C na):aU aG 3 #[.agg #[a4 R,a4 C,a9 Aa na capa]] w (Gv w (Is (gx))):=by
 have ax:w.heap.size≤w.heap.size:=aZ _
 have ar:=hxa
 obtain⟨msa,ak,ag⟩:=hxa
 refine bJ Tryz.func3 E (n:=145) E (bq E) (args:= [.agg #[a4 R,a4 C,a9 Aa na capa]]) (bH [(0,.agg #[a4 R,a4 C,a9 Aa na capa])] ⟨rfl,i3⟩ (sr (bx [a4 R,a4 C,a9 Aa na capa] aF E E E fun g1 v2 o _ _ F=>(mv 1 E (a7 (sr ?_))))))
 obtain⟨_,O,_,_,_⟩:∃lb,lb≤v2.heap.size∧v2.heap.size≤lb∧w.heap.size≤lb∧g1<lb:=⟨v2.heap.size,aZ _,aZ _,F.size,o.lt⟩
 refine cl (vs:= []) F (BH F.size O) E (by kernel_rfl) fun _ _ r9 e8 H=>?_
 obtain⟨_,rfl,⟨q,I,rfl,f⟩⟩:=r9
 have ah:=f.block
 refine cl (vs:= [.agg #[a4 2,a4 2,a9 q 4 I]]) H (pD (R:=2) (C:=2) (hS.ext H) ((f.zf0).mono (by decide)) (by decide) (by decide) E) E (by kernel_rfl) fun _ r ab j e=>?_
 obtain⟨_,_,rfl,rfl,rfl⟩:=ab
 refine mv 1 E (pu (v:= .string (aB (bR (aT 10) 2 2 [2,4,6,8]))) E (pu (v:= a4 0) E (mv 2 E (a7 (aD (sr (mv 1 E (aA E E E false (by decide) (mv 2 E (iD (a:=bR (aT 10) 2 2 [2,4,6,8]) (b:= [91,50,32,52,59,32,54,32,56,93]) E E E nM false (qQ (xT)) (pu (v:= ik) E (a7 (aI E ?_)))))))))))))
 refine aY (aJ (sr (lo dP (o.ext (e8.t j)) [a4 R,a4 C,a9 Aa na capa] E E E ?_)))
 obtain⟨V,D,h,_,_⟩:∃lb,lb≤r.heap.size∧r.heap.size≤lb∧w.heap.size≤lb∧g1<lb:=⟨r.heap.size,aZ _,aZ _,e.size,(o.ext (e8.t j)).lt⟩
 have aq:∀p:a8,q=some p→p.block<V:=fun p hp=>cU (((f.ext j)).block p hp).2 h
 refine cl (vs:= [.agg #[a4 R,a4 C,a9 Aa na capa]]) e (uX (w0:=w) e.size D e ((show ZF w _ _ _ _ _ from⟨msa,ak,ag⟩).ext e)) E (by kernel_rfl) fun _ _ aa ao Y=>?_
 obtain⟨_,rfl,⟨U,M,rfl,L⟩⟩:=aa
 have Z:=L.block
 refine cl (vs:= [.agg #[a4 R,a4 C,a9 U na M]]) Y (MG hs) E (by kernel_rfl) fun _ _ ae ai ap=>?_
 obtain⟨_,_,rfl,rfl,rfl⟩:=ae
 refine mv 1 E (pu (v:= .string (aB ([]))) E (pu (v:= a4 1) E (mv 2 E (a7 (aD (sr (lo dP (o.ext (e8.t (j.t (ao.t ai)))) [a4 R,a4 C,a9 Aa na capa] E E E (cl (vs:= [.agg #[a4 R,a4 C,a9 Aa na capa]]) ap (KU hs) E (by kernel_rfl) fun _ _ W _ X=>?_))))))))
 obtain rfl:=W
 refine pu (v:= gx) E (a7 (b8 E (sr (mv 1 E (aA E E E true (by decide) (mv 2 E (iD (a:= []) (b:= []) E E E (by decide) true (oH (E)) (pu (v:= gx) E (mv 1 E (a7 (aW (bO (aV [gx] E ⟨rfl,i3⟩ ?_)))))))))))))
 exact⟨_,rfl,rfl,X⟩
theorem L3 (hm:Mxl w)(hS:Signs w)(hR':R≤64)(hC:C≤64)(hxa:ZF w Aa (R*C) capa 1048576 zs)(hna1:R*C≤1048576)(hs:jV ((R:Nat):Int) ((C:Nat):Int) (R*C)):aU aG 3 #[.agg #[a4 R,a4 C,a9 Aa (R*C) capa]] w (Gv w (Is (gx))):=by
 have fx:w.heap.size≤w.heap.size:=aZ _
 have fg:=hxa
 have bh:zs.length=R*C:=hxa.len
 have hK:=JI hxa
 have ft:=rB bh hR' hC hK
 obtain⟨msa,cz,de⟩:=hxa
 refine bJ Tryz.func3 E (n:=145) E (bq E) (args:= [.agg #[a4 R,a4 C,a9 Aa (R*C) capa]]) (bH [(0,.agg #[a4 R,a4 C,a9 Aa (R*C) capa])] ⟨rfl,i3⟩ (sr (bx [a4 R,a4 C,a9 Aa (R*C) capa] aF E E E fun g1 v2 ai _ _ bu=>(mv 1 E (a7 (sr ?_))))))
 obtain⟨_,ch,_,_,_⟩:∃lb,lb≤v2.heap.size∧v2.heap.size≤lb∧w.heap.size≤lb∧g1<lb:=⟨v2.heap.size,aZ _,aZ _,bu.size,ai.lt⟩
 refine cl (vs:= []) bu (BH bu.size ch) E (by kernel_rfl) fun _ _ r9 e8 ce=>?_
 obtain⟨_,rfl,⟨Y,cj,rfl,D⟩⟩:=r9
 have ef:=D.block
 refine cl (vs:= [.agg #[a4 2,a4 2,a9 Y 4 cj]]) ce (pD (R:=2) (C:=2) (hS.ext ce) ((D.zf0).mono (by decide)) (by decide) (by decide) E) E (by kernel_rfl) fun _ bo em F ay=>?_
 obtain⟨_,_,rfl,rfl,rfl⟩:=em
 refine mv 1 E (pu (v:= .string (aB (bR (aT 10) 2 2 [2,4,6,8]))) E (pu (v:= a4 0) E (mv 2 E (a7 (aD (sr (mv 1 E (aA E E E false (by decide) (mv 2 E (iD (a:=bR (aT 10) 2 2 [2,4,6,8]) (b:= [91,50,32,52,59,32,54,32,56,93]) E E E nM false (qQ (xT)) (pu (v:= ik) E (a7 (aI E ?_)))))))))))))
 refine aY (aJ (sr (lo dP (ai.ext (e8.t F)) [a4 R,a4 C,a9 Aa (R*C) capa] E E E ?_)))
 obtain⟨cr,bw,bd,_,_⟩:∃lb,lb≤bo.heap.size∧bo.heap.size≤lb∧w.heap.size≤lb∧g1<lb:=⟨bo.heap.size,aZ _,aZ _,ay.size,(ai.ext (e8.t F)).lt⟩
 have dz:∀p:a8,Y=some p→p.block<cr:=fun p O=>cU (((D.ext F)).block p O).2 bd
 refine cl (vs:= [.agg #[a4 R,a4 C,a9 Aa (R*C) capa]]) ay (uX (w0:=w) ay.size bw ay ((show ZF w _ _ _ _ _ from⟨msa,cz,de⟩).ext ay)) E (by kernel_rfl) fun _ _ ee W br=>?_
 obtain⟨_,rfl,⟨am,ck,rfl,M⟩⟩:=ee
 have du:=M.block
 refine cl (vs:= [.agg #[a4 R,a4 C,a9 am (R*C) ck]]) br (pD (hS.ext br) ((M).zf br) hR' hC E) E (by kernel_rfl) fun _ _ dx o ei=>?_
 obtain⟨_,_,rfl,rfl,rfl⟩:=dx
 refine mv 1 E (pu (v:= .string (aB (bR (aT 10) R C zs))) E (pu (v:= a4 0) E (mv 2 E (a7 (aD (sr (lo dP (ai.ext (e8.t (F.t (W.t o)))) [a4 R,a4 C,a9 Aa (R*C) capa] E E E (cl (vs:= [.agg #[a4 R,a4 C,a9 Aa (R*C) capa]]) ei (BI hs) E (by kernel_rfl) fun _ _ ea q cd=>?_))))))))
 obtain rfl:=ea
 refine pu (v:= ik) E (a7 (aI E (aY (aJ (sr (mv 1 E (cl (vs:= [.string (aB (bR (aT 10) R C zs))]) cd (C2 (hm.ext cd) hR' hC bh hK) E (by kernel_rfl) fun _ _ eb j df=>?_)))))))
 obtain⟨_,_,rfl,⟨_,rfl,⟨I,ao,rfl,h⟩⟩,r35_1⟩:=eb
 have ec:=h.block
 obtain rfl:=r35_1
 refine mv 1 E (pu (v:= .agg #[a4 R,a4 C,a9 I (R*C) ao]) E (pu (v:= a4 0) E (eK E (z:= .agg #[I0,I0,S0]) (vs:= [I0,I0,S0]) (fun _=>by kernel_rfl) E fun ae _ nb=>?_)))
 have e:=nb.bk
 have dg:w.heap.size≤ae:=by rw [←nb.at_];exact df.size
 have fv:g1<ae:=by rw [←nb.at_];exact (ai.ext (e8.t (F.t (W.t (o.t (q.t j)))))).lt
 have fi:∀p:a8,Y=some p→p.block≠ae:=fun p O=>by have:=((D.ext (F.t (W.t (o.t (q.t j)))))).block p O;have:=nb.at_;omega
 have fe:∀p:a8,am=some p→p.block≠ae:=fun p O=>by have:=((M.ext (o.t (q.t j)))).block p O;have:=nb.at_;omega
 have fo:∀p:a8,I=some p→p.block≠ae:=fun p O=>by have:=(h).block p O;have:=nb.at_;omega
 have f:=nb.ext
 clear nb
 have ej:=df.trans f
 refine so dP e [a4 R,a4 C,a9 I (R*C) ao] ej dg E E E E fun bv ar H au=>(mv 1 E (a7 (sr (lo dP ((ai.ext (e8.t (F.t (W.t (o.t (q.t (j.t f))))))).vN H) [a4 R,a4 C,a9 Aa (R*C) capa] E E E ?_))))
 obtain⟨az,ag,L,_,_,_⟩:∃lb,lb≤bv.heap.size∧bv.heap.size≤lb∧w.heap.size≤lb∧g1<lb∧ae<lb:=⟨bv.heap.size,aZ _,aZ _,au.size,((ai.ext (e8.t (F.t (W.t (o.t (q.t (j.t f))))))).vN H).lt,ar.lt⟩
 have ey:∀p:a8,Y=some p→p.block<az:=fun p O=>cU ((((D.ext (F.t (W.t (o.t (q.t (j.t f)))))).updT e H (cT ((D.ext (F.t (W.t (o.t (q.t (j.t f)))))).own.choose_spec) e (by decide)))).block p O).2 L
 have dy:∀p:a8,am=some p→p.block<az:=fun p O=>cU ((((M.ext (o.t (q.t (j.t f)))).updT e H (cT ((M.ext (o.t (q.t (j.t f)))).own.choose_spec) e (by decide)))).block p O).2 L
 have dw:∀p:a8,I=some p→p.block<az:=fun p O=>cU ((((h.ext f).updT e H (cT ((h.ext f).own.choose_spec) e (by decide)))).block p O).2 L
 refine cl (vs:= [.agg #[a4 R,a4 C,a9 Aa (R*C) capa]]) au (uX (w0:=w) au.size ag au ((show ZF w _ _ _ _ _ from⟨msa,cz,de⟩).ext au)) E (by kernel_rfl) fun _ _ ew V ax=>?_
 obtain⟨_,rfl,⟨bm,cg,rfl,av⟩⟩:=ew
 have dt:=av.block
 refine cl (vs:= [.agg #[a4 R,a4 C,a9 bm (R*C) cg]]) ax (LP ax.size (aN ag V.size) ((av).zf ax) hR' hC E (by decide)) E (by kernel_rfl) fun _ _ eg U bi=>?_
 obtain⟨_,_,rfl,⟨_,rfl,⟨Z,ak,rfl,ap⟩⟩,r66_1⟩:=eg
 have eh:=ap.block
 obtain rfl:=r66_1
 refine mv 1 E (pu (v:= .agg #[a4 R,a4 C,a9 Z (R*C) ak]) E (pu (v:= a4 0) E (eK E (z:= .agg #[I0,I0,S0]) (vs:= [I0,I0,S0]) (fun _=>by kernel_rfl) E fun ah _ nb=>?_)))
 have X:=nb.bk
 have cx:w.heap.size≤ah:=by rw [←nb.at_];exact bi.size
 have fq:ae<ah:=by rw [←nb.at_];exact (ar.ext (V.t U)).lt
 have fk:∀p:a8,Y=some p→p.block≠ah:=fun p O=>by have:=((((D.ext (F.t (W.t (o.t (q.t (j.t f)))))).updT e H (cT ((D.ext (F.t (W.t (o.t (q.t (j.t f)))))).own.choose_spec) e (by decide))).ext (V.t U))).block p O;have:=nb.at_;omega
 have fj:∀p:a8,am=some p→p.block≠ah:=fun p O=>by have:=((((M.ext (o.t (q.t (j.t f)))).updT e H (cT ((M.ext (o.t (q.t (j.t f)))).own.choose_spec) e (by decide))).ext (V.t U))).block p O;have:=nb.at_;omega
 have fh:∀p:a8,I=some p→p.block≠ah:=fun p O=>by have:=((((h.ext f).updT e H (cT ((h.ext f).own.choose_spec) e (by decide))).ext (V.t U))).block p O;have:=nb.at_;omega
 have fp:∀p:a8,bm=some p→p.block≠ah:=fun p O=>by have:=((av.ext U)).block p O;have:=nb.at_;omega
 have fm:∀p:a8,Z=some p→p.block≠ah:=fun p O=>by have:=(ap).block p O;have:=nb.at_;omega
 have aa:=nb.ext
 clear nb
 have dm:=bi.trans aa
 refine so dP X [a4 R,a4 C,a9 Z (R*C) ak] dm cx E E E E fun _ dh aw dd=>(mv 1 E (a7 (aD (sr (mv 1 E (aA E E E false (by decide) (mv 2 E (aA E E E false (by decide) (pu (v:= ik) E (mv 2 E (aA E E E false (by decide) (pu (v:= ik) E (mv 1 E ?_)))))))))))))
 refine lo dP ((ar.ext (V.t (U.t aa))).vN aw) [a4 R,a4 C,a9 I (R*C) ao] E E E (lo dP dh [a4 R,a4 C,a9 Z (R*C) ak] E E E (cl (vs:= [.agg #[a4 R,a4 C,a9 I (R*C) ao],.agg #[a4 R,a4 C,a9 Z (R*C) ak]]) dd (KX ((((h.ext f).updT e H (cT ((h.ext f).own.choose_spec) e (by decide))).ext (V.t (U.t aa))).updT X aw (cT ((((h.ext f).updT e H (cT ((h.ext f).own.choose_spec) e (by decide))).ext (V.t (U.t aa))).own.choose_spec) X (by decide))) (aN (aN (aN (aN (aN (aN (aN (aZ _) j.size) f.size) H.by_.size) V.size) U.size) aa.size) aw.by_.size) ((ap.ext aa).updT X aw (cT ((ap.ext aa).own.choose_spec) X (by decide))) (aN (aN (aN (aN ag V.size) U.size) aa.size) aw.by_.size) hR' hC (fun _ _=>rfl)) E (by kernel_rfl) fun _ _ fb _ ba=>?_))
 obtain rfl:=fb
 refine pu (v:= ik) E (pu (v:= ik) E (a7 (aI E (aY (aJ (sr (mv 1 E (iT E E E (r:= .string (aB (([9,32,112,114,105,110,116,194,160])++(bR (aT 10) R C zs)))) E (fun w=>jD (a:= [9,32,112,114,105,110,116,194,160]) (b:=bR (aT 10) R C zs) (by simp only [cS,List.length_nil];omega)) (iT E E E (r:= .string (aB ((([9,32,112,114,105,110,116,194,160])++(bR (aT 10) R C zs))++([32,35,32,195,169])))) E (fun w=>jD (a:=([9,32,112,114,105,110,116,194,160])++(bR (aT 10) R C zs)) (b:= [32,35,32,195,169]) (by simp only [cK,cS,List.length_nil];omega)) (cl (vs:= [.string (aB ((([9,32,112,114,105,110,116,194,160])++(bR (aT 10) R C zs))++([32,35,32,195,169])))]) ba (MF (hm.ext ba) (hS.ext ba) hR' hC bh hK) E (by kernel_rfl) fun _ _ el _ bg=>?_))))))))))
 obtain⟨_,_,_,rfl,⟨NA,nc,KA,kc,rfl,hN,cv⟩,rfl,rfl⟩:=el
 refine mv 1 E (pu (v:= a9 NA 2 nc) E (pu (v:= a4 0) E (pu (v:= a4 0) E (mv 3 E (a7 (aD (sr (mv 1 E (aA E E E false (by decide) (mv 2 E (pu (v:= a4 2) E (aA E E E false (by decide) (pu (v:= ik) E ?_)))))))))))))
 refine mv 2 E ?_
 obtain⟨aq,bf,cm,cb,da⟩:=qZ ((hN).rv)
 refine cG E E E Tryz.underlying35 iG 0 E aq bf (pu (v:= .pointer (some aq)) E (aH E E (cO (fun _=>by kernel_rfl) cm) (aA E E E false (by decide) (pu (v:= ik) E (mv 2 E (cG E E E Tryz.underlying35 iG 0 E aq bf (pu (v:= .pointer (some (aq.add 1))) E (aH E E (cO (fun _=>by kernel_rfl) cb) (mv 1 E (iD (a:=bR (aT 10) R C zs) (b:=bR (aT 10) R C zs) E E E nM false (qQ (E)) (pu (v:= ik) E (mv 2 E (cG E E E Tryz.underlying35 iG 0 E aq bf ?_))) (hb:=nM)))))))))))
 refine pu (v:= .pointer (some (aq.add 2))) E (aH E E (cO (fun _=>by kernel_rfl) da) (pu (v:= a4 0) E (aA E E E false (by decide) (pu (v:= ik) E (a7 (aI E (aY (aJ (aD (sr (mv 1 E ?_)))))))))))
 obtain⟨ab,aj,dl,cu,bj⟩:=uI ((hN).rv)
 refine cG E E E Tryz.underlying35 iG 1 E ab aj (pu (v:= .pointer (some ab)) E (aH E E (cO (fun _=>by kernel_rfl) dl) (aA E E E false (by decide) (mv 2 E (cG E E E Tryz.underlying35 iG 1 E ab aj (pu (v:= .pointer (some (ab.add 1))) E (aH E E (cO (fun _=>by kernel_rfl) cu) (iD (a:= [112,114,105,110,116]) (b:= [112,114,105,110,116]) E E E (by decide) false (qQ (E)) (pu (v:= ik) E (mv 2 E (cG E E E Tryz.underlying35 iG 1 E ab aj (pu (v:= .pointer (some (ab.add 2))) E (aH E E (cO (fun _=>by kernel_rfl) bj) ?_)))))))))))))
 refine pu (v:= a4 1) E (aA E E E false (by decide) (pu (v:= ik) E (mv 2 E (cG E E E Tryz.underlying35 iG 1 E ab aj (pu (v:= .pointer (some (ab.add 2))) E (aH E E (cO (fun _=>by kernel_rfl) bj) ?_))))))
 obtain⟨ez,co,cf⟩:=AQ ((cv).rv)
 refine cG E E E Tryz.underlying38 gU 0 E ez co (aH E E (cO (fun _=>by kernel_rfl) cf) (aA E E E false (by decide) (pu (v:= ik) E (a7 (aI E (aY (aJ (sr (mv 1 E (cl (vs:= [a9 NA 2 nc]) bg (ME (hm.ext bg) (hS.ext bg) hR' hC bh hK (hN) (cv)) E (by kernel_rfl) fun _ _ fa _ ci=>?_))))))))))
 obtain⟨_,_,rfl,rfl,rfl⟩:=fa
 refine mv 1 E (pu (v:= .string (aB ([112,114,105,110,116,32]++bR (aT 10) R C zs))) E (pu (v:= a4 0) E (mv 2 E (a7 (sr (mv 1 E (aA E E E true (by decide) (mv 3 E (iT E E E (r:= .string (aB (([112,114,105,110,116,32])++(bR (aT 10) R C zs)))) E (fun w=>jD (a:= [112,114,105,110,116,32]) (b:=bR (aT 10) R C zs) (by simp only [cS,List.length_nil];omega)) (iD (a:= [112,114,105,110,116,32]++bR (aT 10) R C zs) (b:=([112,114,105,110,116,32])++(bR (aT 10) R C zs)) E E E (AF (by decide) nM) true (oH (E)) (pu (v:= gx) E (mv 1 E (bA ?_))) (hb:=(AF (by decide) nM))))))))))))
 refine aJ (aW (aV [gx] E ⟨rfl,i3⟩ ?_))
 exact⟨_,rfl,rfl,ci⟩
theorem JT {R C:Int}{Ka:Nat}(hxa:ZF w Aa na capa Ka xs)(hk:Ka+na≤1048576)(hm:Mxl w)(hS:Signs w):aU aG 3 #[.agg #[a4 R,a4 C,a9 Aa na capa]] w (fun e w'=>e= .returned (gx)∧Ext w w'):=by
 have hxa':ZF w Aa na capa 1048576 xs:=hxa.mono (by omega)
 have key:aU aG 3 #[.agg #[a4 R,a4 C,a9 Aa na capa]] w (Gv w (Is (gx))):=by
  by_cases f:jV R C na
  ·obtain⟨n,rfl⟩:=Int.eq_ofNat_of_zero_le f.1.1
   obtain⟨c,rfl⟩:=Int.eq_ofNat_of_zero_le f.2.1.1
   have hn:n≤64:=by have:=f.1.2;omega
   have o:c≤64:=by have:=f.2.1.2;omega
   have j:na=n*c:=by have:=f.2.2;exact_mod_cast this
   subst j
   exact L3 hm hS hn o hxa' (by omega) f
  ·exact L4 hS hxa' (by omega) f
 refine key.mono fun e w' h=>?_
 obtain⟨v,rfl,h1,h2⟩:=h
 exact⟨by rw [show v=_ from h1],h2⟩
end Go.Proofs.YtnpbbknemflpnaaGreatDoor
