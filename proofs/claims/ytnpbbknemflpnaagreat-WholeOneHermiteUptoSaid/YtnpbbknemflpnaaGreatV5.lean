/- Parts Ld5, Ldg, Ld6, Ldh, Ld7, Hfs, Ldi, Ld8, Ld9, Hg, On1, On2, LawH, joined. -/
import Derived.Test.YtnpbbknemflpnaaGreatV4

namespace Go.Proofs.YtnpbbknemflpnaaGreat
open Go.RowKit
set_option maxHeartbeats 8000000 in
set_option maxRecDepth 20000 in
theorem g_ladM_meet {w:World}{lb n cc gl gs gr:Nat}{RA:Option Addr}{rcap:Nat}{ra:Nat→Option Addr}{rc:Nat→Nat}{Z:Mx}(hL:Ldr lb n cc gl gs gr RA rcap ra rc w Z) (hlb:lb≤w.heap.size) (hcc:cc≤64){k q j S B:Nat}(hk2:k<n) (hq2:q<n) (hS:Szm cc k q j S B Z) (hK:S+2*B+4≤68719476736) (hB1:B+1≤17179869184):
    Calls Tryz.prog 91 #[.pointer (some ⟨gl,0,none⟩),.int .i64 ((k:Nat):Int),.int .i64 ((q:Nat):Int),.int .i64 ((j:Nat):Int)] w (fun e w'=>e= .returned (.tuple #[])∧Ldr lb n cc gl gs gr RA rcap ra rc w' (meetF Ebz k q j Z)∧UpS (LS n gl gs gr RA ra) w w'):=by
 have hB34:B≤17179869184:=by omega
 have hK1:S≤68719476736:=by omega
 have hjc:=hS.jc
 have hB2:B+1≤68719476736:=by omega
 refine sx_enter Tryz.func91 rfl (n:=105) rfl (bq rfl) (args:= [.pointer (some ⟨gl,0,none⟩),.int .i64 ((k:Nat):Int),.int .i64 ((q:Nat):Int),.int .i64 ((j:Nat):Int)]) ?_
 have hLS:∀k,LS n gl gs gr RA ra k→k<w.heap.size:=fun k hk=>(hL.lt hk).2
 obtain⟨ps1,Y1,hP1⟩:=(hL).op
 have hcap:=hP1.ho.rv.le
 refine cw_keep [(0,.pointer (some ⟨gl,0,none⟩)),(1,.int .i64 ((k:Nat):Int)),(2,.int .i64 ((q:Nat):Int)),(3,.int .i64 ((j:Nat):Int))] ⟨rfl,rfl,rfl,rfl,trivial⟩ (cw_seq ?_)
 obtain⟨pz2,hpz2,hcz2⟩:=(hP1.ho).rowAt (i:=q) (by omega)
 obtain⟨pz3,sz3,Bz3,nz3,cz3,hpz3,ldz3,hKz3,zz3⟩:=(hP1.hc).at (hP1.per.lt q (by omega)) (show j<cc by omega)
 have zz3:=zz3.cast (hP1.ent q j (by omega) (by omega)).symm
 obtain⟨pz4,hpz4,hcz4⟩:=(hP1.ho).rowAt (i:=k) (by omega)
 obtain⟨pz5,sz5,Bz5,nz5,cz5,hpz5,ldz5,hKz5,zz5⟩:=(hP1.hc).at (hP1.per.lt k (by omega)) (show j<cc by omega)
 have zz5:=zz5.cast (hP1.ent k j (by omega) (by omega)).symm
 refine cw_drawA mix 27 [22,23,24] [25,26] [Is (.pointer (some ⟨gl,0,none⟩)),Is (.pointer (some ⟨gl,0,none⟩)),Is (.pointer (some ⟨gl,0,none⟩)),Is (.slice RA n rcap),Is (.int .i64 ((q:Nat):Int)),Is (.pointer (some pz2)),Is (.slice (ra (ps1.getD q 0)) cc (rc (ps1.getD q 0))),Is (.int .i64 ((j:Nat):Int)),Is (.pointer (some pz3)),Is (.agg #[.bool sz3,.slice Bz3 nz3 cz3]),Is (.pointer (some ⟨gl,0,none⟩)),Is (.pointer (some ⟨gl,0,none⟩)),Is (.pointer (some ⟨gl,0,none⟩)),Is (.slice RA n rcap),Is (.int .i64 ((k:Nat):Int)),Is (.pointer (some pz4)),Is (.slice (ra (ps1.getD k 0)) cc (rc (ps1.getD k 0))),Is (.int .i64 ((j:Nat):Int)),Is (.pointer (some pz5)),Is (.agg #[.bool sz5,.slice Bz5 nz5 cz5]),T3 (ZR w.heap.size ((Z q j)/(Z k j))) (ZR w.heap.size ((Z q j)%(Z k j))) (Is (.int .i64 0)),T3 (ZR w.heap.size ((Z q j)/(Z k j))) (ZR w.heap.size ((Z q j)%(Z k j))) (Is (.int .i64 0)),ZR w.heap.size ((Z q j)/(Z k j)),ZR w.heap.size ((Z q j)%(Z k j)),Is (.int .i64 0),PR w.heap.size 41 [F0,S0],PR w.heap.size 41 [F0,S0]] [[],[0],[1],[2],[],[3,4],[5],[],[6,7],[8],[],[10],[11],[12],[],[13,14],[15],[],[16,17],[18],[9,19],[20],[21],[21],[21],[],[]] [[],[0],[0,1],[0,1,2],[],[0,1,2,3,4],[0,1,2,3,4,5],[],[0,1,2,3,4,5,6,7],[0,1,2,3,4,5,6,7,8],[],[10],[10,11],[10,11,12],[],[10,11,12,13,14],[10,11,12,13,14,15],[],[10,11,12,13,14,15,16,17],[10,11,12,13,14,15,16,17,18],[0,1,2,3,4,5,6,7,8,9,10,11,12,13,14,15,16,17,18,19],[0,1,2,3,4,5,6,7,8,9,10,11,12,13,14,15,16,17,18,19,20],[0,1,2,3,4,5,6,7,8,9,10,11,12,13,14,15,16,17,18,19,20,21],[0,1,2,3,4,5,6,7,8,9,10,11,12,13,14,15,16,17,18,19,20,21],[0,1,2,3,4,5,6,7,8,9,10,11,12,13,14,15,16,17,18,19,20,21],[],[],[0,1,2,3,4,5,6,7,8,9,10,11,12,13,14,15,16,17,18,19,20,21,22,25,26],[0,1,2,3,4,5,6,7,8,9,10,11,12,13,14,15,16,17,18,19,20,21,22,23,25,26,27],[0,1,2,3,4,5,6,7,8,9,10,11,12,13,14,15,16,17,18,19,20,21,22,23,24,25,26,27,28]] rfl rfl ⟨fun _ _ h=>PR.old h,fun _ _ h=>PR.old h,trivial⟩
  (obs_cons rfl rfl (hob rfl rfl ?_) (obs_cons rfl rfl (hob rfl rfl ?_) (obs_cons rfl rfl (hob rfl rfl ?_) (obs_cons rfl rfl (hob rfl rfl ?_) (obs_cons rfl rfl (hob rfl rfl ?_) (obs_cons rfl rfl (hob rfl rfl ?_) (obs_cons rfl rfl (hob rfl rfl ?_) (obs_cons rfl rfl (hob rfl rfl ?_) (obs_cons rfl rfl (hob rfl rfl ?_) (obs_cons rfl rfl (hob rfl rfl ?_) (obs_cons rfl rfl (hob rfl rfl ?_) (obs_cons rfl rfl (hob rfl rfl ?_) (obs_cons rfl rfl (hob rfl rfl ?_) (obs_cons rfl rfl (hob rfl rfl ?_) (obs_cons rfl rfl (hob rfl rfl ?_) (obs_cons rfl rfl (hob rfl rfl ?_) (obs_cons rfl rfl (hob rfl rfl ?_) (obs_cons rfl rfl (hob rfl rfl ?_) (obs_cons rfl rfl (hob rfl rfl ?_) (obs_cons rfl rfl (hob rfl rfl ?_) (obs_cons rfl rfl (hob rfl rfl ?_) (obs_cons rfl rfl (hob rfl rfl ?_) (obs_float rfl rfl (fob rfl ?_) (obs_float rfl rfl (fob rfl ?_) (obs_float rfl rfl (fob rfl ?_) (obs_cons rfl rfl (hobA rfl ?_) (obs_cons rfl rfl (hobA rfl ?_) obs_nil))))))))))))))))))))))))))) ?_
 · 
  intro v14 e15
  have hw1:UpS (LS n gl gs gr RA ra) w v14:=(UpS.refl (LS n gl gs gr RA ra) w).ext e15
  refine deps_nil (mv 1 rfl ?_)
  exact pi_done rfl (Ext.refl _) rfl
 · 
  intro v16 e17
  have hw1:UpS (LS n gl gs gr RA ra) w v16:=(UpS.refl (LS n gl gs gr RA ra) w).ext e17
  refine dk rfl rfl (deps_nil (pf gl 0 rfl (by kernel_rfl) ?_))
  exact pi_done rfl (Ext.refl _) rfl
 · 
  intro v23 e24
  have hw1:UpS (LS n gl gs gr RA ra) w v23:=(UpS.refl (LS n gl gs gr RA ra) w).ext e24
  refine dk rfl rfl (deps_nil (pf gl 0 rfl (by kernel_rfl) ?_))
  exact pi_done rfl (Ext.refl _) rfl
 · 
  intro v30 e31
  have hw1:UpS (LS n gl gs gr RA ra) w v30:=(UpS.refl (LS n gl gs gr RA ra) w).ext e31
  refine dk rfl rfl (deps_nil (wl_load rfl rfl (load_cell cellRows (hP1.ext e31).bl rfl) (by decide) ?_))
  exact pi_done rfl (Ext.refl _) rfl
 · 
  intro v37 e38
  have hw1:UpS (LS n gl gs gr RA ra) w v37:=(UpS.refl (LS n gl gs gr RA ra) w).ext e38
  refine deps_nil (mv 1 rfl ?_)
  exact pi_done rfl (Ext.refl _) rfl
 · 
  intro v39 e40
  have hw1:UpS (LS n gl gs gr RA ra) w v39:=(UpS.refl (LS n gl gs gr RA ra) w).ext e40
  refine dk rfl rfl (dk rfl rfl (deps_nil (wl_idx rfl rfl rfl unRows szInts q rfl (by omega) pz2 hpz2 (by decide) ?_)))
  exact pi_done rfl (Ext.refl _) rfl
 · 
  intro v51 e52
  have hw1:UpS (LS n gl gs gr RA ra) w v51:=(UpS.refl (LS n gl gs gr RA ra) w).ext e52
  refine dk rfl rfl (deps_nil (wl_load rfl rfl (load_cell1 cellInts (e52.cell hcz2)) (by decide) ?_))
  exact pi_done rfl (Ext.refl _) rfl
 · 
  intro v58 e59
  have hw1:UpS (LS n gl gs gr RA ra) w v58:=(UpS.refl (LS n gl gs gr RA ra) w).ext e59
  refine deps_nil (mv 1 rfl ?_)
  exact pi_done rfl (Ext.refl _) rfl
 · 
  intro v60 e61
  have hw1:UpS (LS n gl gs gr RA ra) w v60:=(UpS.refl (LS n gl gs gr RA ra) w).ext e61
  refine dk rfl rfl (dk rfl rfl (deps_nil (wl_idx rfl rfl rfl elemI aggInt.size j rfl (by omega) pz3 hpz3 (by decide) ?_)))
  exact pi_done rfl (Ext.refl _) rfl
 · 
  intro v72 e73
  have hw1:UpS (LS n gl gs gr RA ra) w v72:=(UpS.refl (LS n gl gs gr RA ra) w).ext e73
  refine dk rfl rfl (deps_nil (wl_load rfl rfl (ldz3 _ e73 _ _ aggInt) (by decide) ?_))
  exact pi_done rfl (Ext.refl _) rfl
 · 
  intro v79 e80
  have hw1:UpS (LS n gl gs gr RA ra) w v79:=(UpS.refl (LS n gl gs gr RA ra) w).ext e80
  refine deps_nil (mv 1 rfl ?_)
  exact pi_done rfl (Ext.refl _) rfl
 · 
  intro v81 e82
  have hw1:UpS (LS n gl gs gr RA ra) w v81:=(UpS.refl (LS n gl gs gr RA ra) w).ext e82
  refine dk rfl rfl (deps_nil (pf gl 0 rfl (by kernel_rfl) ?_))
  exact pi_done rfl (Ext.refl _) rfl
 · 
  intro v88 e89
  have hw1:UpS (LS n gl gs gr RA ra) w v88:=(UpS.refl (LS n gl gs gr RA ra) w).ext e89
  refine dk rfl rfl (deps_nil (pf gl 0 rfl (by kernel_rfl) ?_))
  exact pi_done rfl (Ext.refl _) rfl
 · 
  intro v95 e96
  have hw1:UpS (LS n gl gs gr RA ra) w v95:=(UpS.refl (LS n gl gs gr RA ra) w).ext e96
  refine dk rfl rfl (deps_nil (wl_load rfl rfl (load_cell cellRows (hP1.ext e96).bl rfl) (by decide) ?_))
  exact pi_done rfl (Ext.refl _) rfl
 · 
  intro v102 e103
  have hw1:UpS (LS n gl gs gr RA ra) w v102:=(UpS.refl (LS n gl gs gr RA ra) w).ext e103
  refine deps_nil (mv 1 rfl ?_)
  exact pi_done rfl (Ext.refl _) rfl
 · 
  intro v104 e105
  have hw1:UpS (LS n gl gs gr RA ra) w v104:=(UpS.refl (LS n gl gs gr RA ra) w).ext e105
  refine dk rfl rfl (dk rfl rfl (deps_nil (wl_idx rfl rfl rfl unRows szInts k rfl (by omega) pz4 hpz4 (by decide) ?_)))
  exact pi_done rfl (Ext.refl _) rfl
 · 
  intro v116 e117
  have hw1:UpS (LS n gl gs gr RA ra) w v116:=(UpS.refl (LS n gl gs gr RA ra) w).ext e117
  refine dk rfl rfl (deps_nil (wl_load rfl rfl (load_cell1 cellInts (e117.cell hcz4)) (by decide) ?_))
  exact pi_done rfl (Ext.refl _) rfl
 · 
  intro v123 e124
  have hw1:UpS (LS n gl gs gr RA ra) w v123:=(UpS.refl (LS n gl gs gr RA ra) w).ext e124
  refine deps_nil (mv 1 rfl ?_)
  exact pi_done rfl (Ext.refl _) rfl
 · 
  intro v125 e126
  have hw1:UpS (LS n gl gs gr RA ra) w v125:=(UpS.refl (LS n gl gs gr RA ra) w).ext e126
  refine dk rfl rfl (dk rfl rfl (deps_nil (wl_idx rfl rfl rfl elemI aggInt.size j rfl (by omega) pz5 hpz5 (by decide) ?_)))
  exact pi_done rfl (Ext.refl _) rfl
 · 
  intro v137 e138
  have hw1:UpS (LS n gl gs gr RA ra) w v137:=(UpS.refl (LS n gl gs gr RA ra) w).ext e138
  refine dk rfl rfl (deps_nil (wl_load rfl rfl (ldz5 _ e138 _ _ aggInt) (by decide) ?_))
  exact pi_done rfl (Ext.refl _) rfl
 · 
  intro v144 e145
  have hw1:UpS (LS n gl gs gr RA ra) w v144:=(UpS.refl (LS n gl gs gr RA ra) w).ext e145
  refine dk rfl rfl (dk rfl rfl (deps_nil (wl_call rfl rfl (vs:= [.agg #[.bool sz3,.slice Bz3 nz3 cz3],.agg #[.bool sz5,.slice Bz5 nz5 cz5]]) (by kernel_rfl) (by decide) (g_FloorP hw1.size (zz3.ext e145).zi (zz3.le (Nat.le_trans (Nat.le_trans (hS.qS _ hS.jc) hK1) (by decide))) (zz5.ext e145).zi (zz5.le (Nat.le_trans (Nat.le_trans (hS.kB _ hS.jc) (show B≤17179869184 by omega)) (by decide))) hS.pos) ?_)))
  rintro _ v156 ⟨xr158,rfl,r158,e157⟩
  refine ret_intro ?_
  have hw2:UpS (LS n gl gs gr RA ra) w v156:=hw1.ext e157
  obtain⟨_,_,_,rfl,⟨s160,A160,n160,c160,rfl,z160⟩,⟨s161,A161,n161,c161,rfl,z161⟩,rfl⟩:=r158
  exact pi_done rfl e157 ⟨_,_,_,rfl,⟨_,_,_,_,rfl,z160⟩,⟨_,_,_,_,rfl,z161⟩,rfl⟩
 · 
  intro v162 e163
  have hw1:UpS (LS n gl gs gr RA ra) w v162:=(UpS.refl (LS n gl gs gr RA ra) w).ext e163
  refine deps_cons rfl rfl fun x164 y165 h166 e167 f168=>?_
  obtain⟨_,_,_,rfl,⟨s170,A170,n170,c170,rfl,z170⟩,⟨s171,A171,n171,c171,rfl,z171⟩,rfl⟩:=h166
  have z170:=z170.ext f168
  have z171:=z171.ext f168
  refine deps_nil (mv 1 rfl ?_)
  exact pi_done rfl (Ext.refl _) ⟨_,_,_,rfl,⟨_,_,_,_,rfl,z170⟩,⟨_,_,_,_,rfl,z171⟩,rfl⟩
 · 
  intro v172 e173
  have hw1:UpS (LS n gl gs gr RA ra) w v172:=(UpS.refl (LS n gl gs gr RA ra) w).ext e173
  refine deps_cons rfl rfl fun x174 y175 h176 e177 f178=>?_
  obtain⟨_,_,_,rfl,⟨s180,A180,n180,c180,rfl,z180⟩,⟨s181,A181,n181,c181,rfl,z181⟩,rfl⟩:=h176
  have z180:=z180.ext f178
  have z181:=z181.ext f178
  refine deps_nil ?_
  exact⟨.agg #[.bool s180,.slice A180 n180 c180],rfl,rfl,fun _=>by kernel_rfl,⟨_,_,_,_,rfl,z180⟩⟩
 · 
  intro v182 e183
  have hw1:UpS (LS n gl gs gr RA ra) w v182:=(UpS.refl (LS n gl gs gr RA ra) w).ext e183
  refine deps_cons rfl rfl fun x184 y185 h186 e187 f188=>?_
  obtain⟨_,_,_,rfl,⟨s190,A190,n190,c190,rfl,z190⟩,⟨s191,A191,n191,c191,rfl,z191⟩,rfl⟩:=h186
  have z190:=z190.ext f188
  have z191:=z191.ext f188
  refine deps_nil ?_
  exact⟨.agg #[.bool s191,.slice A191 n191 c191],rfl,rfl,fun _=>by kernel_rfl,⟨_,_,_,_,rfl,z191⟩⟩
 · 
  intro v192 e193
  have hw1:UpS (LS n gl gs gr RA ra) w v192:=(UpS.refl (LS n gl gs gr RA ra) w).ext e193
  refine deps_cons rfl rfl fun x194 y195 h196 e197 f198=>?_
  obtain⟨_,_,_,rfl,⟨s200,A200,n200,c200,rfl,z200⟩,⟨s201,A201,n201,c201,rfl,z201⟩,rfl⟩:=h196
  have z200:=z200.ext f198
  have z201:=z201.ext f198
  refine deps_nil ?_
  exact⟨.int .i64 0,rfl,rfl,fun _=>by kernel_rfl,rfl⟩
 · 
  intro v202 e203
  have hw1:UpS (LS n gl gs gr RA ra) w v202:=(UpS.refl (LS n gl gs gr RA ra) w).ext e203
  refine deps_nil (wl_alloc rfl (z:= .agg #[F0,S0]) (vs:= [F0,S0]) (fun _=>by kernel_rfl) rfl (by decide) fun g204 v205 nb=>?_)
  exact pi_done rfl nb.ext ⟨⟨_,rfl,by rw [←nb.at_];exact e203.size,nb.bk⟩,_,rfl,Nat.le_of_eq nb.at_⟩
 · 
  intro v206 e207
  have hw1:UpS (LS n gl gs gr RA ra) w v206:=(UpS.refl (LS n gl gs gr RA ra) w).ext e207
  refine deps_nil (wl_alloc rfl (z:= .agg #[F0,S0]) (vs:= [F0,S0]) (fun _=>by kernel_rfl) rfl (by decide) fun g208 v209 nb=>?_)
  exact pi_done rfl nb.ext ⟨⟨_,rfl,by rw [←nb.at_];exact e207.size,nb.bk⟩,_,rfl,Nat.le_of_eq nb.at_⟩
 · 
  intro v210 e211
  have hw1:UpS (LS n gl gs gr RA ra) w v210:=(UpS.refl (LS n gl gs gr RA ra) w).ext e211
  refine dk rfl rfl (dk rfl rfl (dk rfl rfl (dk rfl rfl (dk rfl rfl (dk rfl rfl (dk rfl rfl (dk rfl rfl (dk rfl rfl (dk rfl rfl (dk rfl rfl (dk rfl rfl (dk rfl rfl (dk rfl rfl ?_)))))))))))))
  refine dk rfl rfl (dk rfl rfl (dk rfl rfl (dk rfl rfl (dk rfl rfl (dk rfl rfl (deps_cons rfl rfl fun x312 y313 h314 e315 f316=>?_))))))
  obtain⟨_,_,_,rfl,⟨s318,A318,n318,c318,rfl,z318⟩,⟨s319,A319,n319,c319,rfl,z319⟩,rfl⟩:=h314
  have z318:=z318.ext f316
  have z319:=z319.ext f316
  refine deps_cons rfl rfl fun x320 y321 h322 e323 f324=>?_
  obtain⟨_,_,_,rfl,⟨s326,A326,n326,c326,rfl,z326⟩,⟨s327,A327,n327,c327,rfl,z327⟩,rfl⟩:=h322
  have z326:=z326.ext f324
  have z327:=z327.ext f324
  refine deps_cons rfl rfl fun x328 y329 h330 e331 f332=>?_
  obtain⟨s333,A333,n333,c333,rfl,z333⟩:=h330
  have z333:=z333.ext f332
  refine deps_cons rfl rfl fun x334 y335 h336 e337 f338=>?_
  obtain⟨s339,A339,n339,c339,rfl,z339⟩:=h336
  have z339:=z339.ext f338
  refine dk rfl rfl (deps_cons rfl rfl fun x345 y346 h347 e348 f349=>?_)
  obtain⟨g350,rfl,ge352,hb351⟩:=h347
  have hb351:=hb351.ext f349
  have ge352:w.heap.size≤g350:=Nat.le_trans (UpS.refl (LS n gl gs gr RA ra) w).size ge352
  refine deps_cons rfl rfl fun x353 y354 h355 e356 f357=>?_
  obtain⟨g358,rfl,ge360,hb359⟩:=h355
  have hb359:=hb359.ext f357
  have ge360:w.heap.size≤g358:=Nat.le_trans (UpS.refl (LS n gl gs gr RA ra) w).size ge360
  refine deps_nil ?_
  intro hdist
  have q361:g358≠g350:=fun e=>hdist 26 (by decide) 25 (by decide) (by decide) _ _ rfl rfl _ _ rfl rfl _ (Or.inl rfl) (by rw [e];exact Or.inl rfl)
  clear hdist
  refine wl_stored rfl rfl rfl aggInt rfl hb351 (bq rfl) rfl [.bool s333,.slice A333 n333 c333] rfl fun v362 hb364 u365 hs366=>?_
  have hw2:UpS (LS n gl gs gr RA ra) w v362:=hw1.upd u365 ge352
  have hb368:=(hb359.updN u365 (by omega))
  refine wl_stored rfl rfl rfl aggInt rfl hb368 (bq rfl) rfl [.bool s339,.slice A339 n339 c339] rfl fun v367 hb369 u370 hs371=>?_
  have hw3:UpS (LS n gl gs gr RA ra) w v367:=hw2.upd u370 ge360
  refine mv 1 rfl (wl_nil (eo_np (eo_then (sr (mv 3 rfl (lo aggInt (hb364.updN u370 (by omega)) [.bool s333,.slice A333 n333 c333] rfl rfl rfl ?_))))))
  have L372:ln (-((Z q j)/(Z k j)))≤68719476736:=(by rw [ln_neg];exact (ln_edivP hS.pos (Nat.le_trans (hS.qS _ hS.jc) hK1)))
  refine wl_call rfl rfl (vs:= [.agg #[.bool s333,.slice A333 n333 c333]]) (by kernel_rfl) (by decide) (g_zint_Neg hw3.size ((z333.updT hb351 u365).updT hb368 u370).zi (z333.le (Nat.le_trans (ln_edivP hS.pos (Nat.le_trans (hS.qS _ hS.jc) hK1)) (by decide)))) ?_
  rintro _ v373 ⟨xr375,rfl,r375,e374⟩
  refine ret_intro ?_
  have hw4:UpS (LS n gl gs gr RA ra) w v373:=hw3.ext e374
  obtain⟨s376,A376,n376,c376,rfl,z376⟩:=r375
  have hLq:ln (-((Z q j)/(Z k j)))≤68719476736:=by rw [ln_neg];exact ln_edivP hS.pos (Nat.le_trans (hS.qS _ hS.jc) hK1)
  refine wl_call rfl rfl (vs:= [.pointer (some ⟨gl,0,none⟩),.int .i64 ((q:Nat):Int),.int .i64 ((k:Nat):Int),.agg #[.bool s376,.slice A376 n376 c376]]) (by kernel_rfl) (by decide) (show Calls Tryz.prog _ _ _ (fun e w'=>e= .returned (.tuple #[])∧Ldr lb n cc gl gs gr RA rcap ra rc w' (mtX k q j Z)∧UpS (LS n gl gs gr RA ra) v373 w') from g_ladM_add ((((hP1.ext e211).updT hb351 u365 (fun q=>absurd (hLS _ q) (by have:=ge352;omega))).updT hb368 u370 (fun q=>absurd (hLS _ q) (by have:=ge360;omega))).ext e374).ldr (Nat.le_trans hlb hw4.size) hcc hq2 hk2 (fun e=>hS.ne e.symm) z376 hLq (fun b hb=>Nat.le_trans (hS.ad hb) (by omega))) ?_
  rintro _ v377 ⟨rfl,hl378,us379⟩
  refine ret_intro ?_
  have no380:=((((hP1.ext e211).updT hb351 u365 (fun q=>absurd (hLS _ q) (by have:=ge352;omega))).updT hb368 u370 (fun q=>absurd (hLS _ q) (by have:=ge360;omega))).ext e374).ldr.no64
  have hw5:UpS (LS n gl gs gr RA ra) w v377:=hw4.trans us379
  obtain⟨ps381,Y381,hP381⟩:=(hl378).op
  refine ne_ (cw_seq (cw_seq ?_))
  by_cases hx0:(Z q j)%(Z k j)=0
  · 
   refine cw_region (lo aggInt ((hb369.ext e374).upS us379 (fun q=>absurd (hLS _ q) (by have:=ge360;omega))) [.bool s339,.slice A339 n339 c339] rfl rfl rfl (wl_call rfl rfl (vs:= [.agg #[.bool s339,.slice A339 n339 c339]]) (by kernel_rfl) (by decide) (g_zint_Sign ((((z339.updT hb351 u365).updT hb368 u370).ext e374).upS us379 no380).zi (z339.le (Nat.le_trans (ln_emodP hS.pos (Nat.le_trans (hS.kB _ hS.jc) hB34)) (by decide)))) ?_))
   rintro _ v382 ⟨xr384,rfl,r384,e383⟩
   refine ret_intro ?_
   have hw6:UpS (LS n gl gs gr RA ra) w v382:=hw5.ext e383
   obtain rfl:=r384
   refine wl_cmp rfl rfl rfl true (scmp_eq_t hx0) (by decide) (ne_ (cw_true rfl (cw_ret (eo_thenR (eo_ret [] rfl trivial ?_)))))
   exact⟨rfl,(hP381.ext e383).ldr.cong (fun a b _ _=>by rw [meetF_z hx0]),hw6⟩
  · 
   have hg0:(Int.gcd ((mtX k q j Z) k j) ((mtX k q j Z) q j):Int)≠0:=by have h9:=hS.pos;have h8:=Int.gcd_pos_of_ne_zero_left ((mtX k q j Z) q j) (show (mtX k q j Z) k j≠0 by rw [mtX_k hS.ne];omega);omega
   refine cw_region (lo aggInt ((hb369.ext e374).upS us379 (fun q=>absurd (hLS _ q) (by have:=ge360;omega))) [.bool s339,.slice A339 n339 c339] rfl rfl rfl (wl_call rfl rfl (vs:= [.agg #[.bool s339,.slice A339 n339 c339]]) (by kernel_rfl) (by decide) (g_zint_Sign ((((z339.updT hb351 u365).updT hb368 u370).ext e374).upS us379 no380).zi (z339.le (Nat.le_trans (ln_emodP hS.pos (Nat.le_trans (hS.kB _ hS.jc) hB34)) (by decide)))) ?_))
   rintro _ v385 ⟨xr387,rfl,r387,e386⟩
   refine ret_intro ?_
   have hw6:UpS (LS n gl gs gr RA ra) w v385:=hw5.ext e386
   obtain rfl:=r387
   refine wl_cmp rfl rfl rfl false (scmp_eq_f hx0) (by decide) (ne_ (cw_false rfl (cw_skip (eo_then (cw_seq (cw_keep [(0,.pointer (some ⟨gl,0,none⟩)),(1,.int .i64 ((k:Nat):Int)),(2,.int .i64 ((q:Nat):Int)),(3,.int .i64 ((j:Nat):Int)),(21,.pointer (some ⟨gl,0,none⟩)),(22,.pointer (some ⟨gl,0,none⟩)),(23,.pointer (some ⟨gl,0,none⟩)),(24,.slice RA n rcap),(25,.int .i64 ((q:Nat):Int)),(26,.pointer (some pz2)),(27,.slice (ra (ps1.getD q 0)) cc (rc (ps1.getD q 0))),(28,.int .i64 ((j:Nat):Int)),(29,.pointer (some pz3)),(30,.agg #[.bool sz3,.slice Bz3 nz3 cz3]),(31,.pointer (some ⟨gl,0,none⟩)),(32,.pointer (some ⟨gl,0,none⟩)),(33,.pointer (some ⟨gl,0,none⟩)),(34,.slice RA n rcap),(35,.int .i64 ((k:Nat):Int)),(36,.pointer (some pz4)),(37,.slice (ra (ps1.getD k 0)) cc (rc (ps1.getD k 0))),(38,.int .i64 ((j:Nat):Int)),(39,.pointer (some pz5)),(40,.agg #[.bool sz5,.slice Bz5 nz5 cz5]),(41,.tuple #[.agg #[.bool s318,.slice A318 n318 c318],.agg #[.bool s319,.slice A319 n319 c319],I0]),(20,.tuple #[.agg #[.bool s326,.slice A326 n326 c326],.agg #[.bool s327,.slice A327 n327 c327],I0]),(42,.agg #[.bool s333,.slice A333 n333 c333]),(43,.agg #[.bool s339,.slice A339 n339 c339]),(44,.int .i64 0),(8,.pointer (some ⟨g350,0,none⟩)),(9,.pointer (some ⟨g358,0,none⟩)),(10,.int .i64 0),(45,.pointer (some ⟨gl,0,none⟩)),(46,.int .i64 ((q:Nat):Int)),(47,.int .i64 ((k:Nat):Int)),(48,.agg #[.bool s333,.slice A333 n333 c333]),(49,.agg #[.bool s376,.slice A376 n376 c376]),(50,.tuple #[]),(51,.agg #[.bool s339,.slice A339 n339 c339]),(52,.int .i64 (scmp ((Z q j)%(Z k j)) 0)),(53,.bool false)] ⟨rfl,rfl,rfl,rfl,rfl,rfl,rfl,rfl,rfl,rfl,rfl,rfl,rfl,rfl,rfl,rfl,rfl,rfl,rfl,rfl,rfl,rfl,rfl,rfl,rfl,rfl,rfl,rfl,rfl,rfl,rfl,rfl,rfl,rfl,rfl,rfl,rfl,rfl,rfl,rfl,rfl,trivial⟩ ?_))))))
   obtain⟨pz388,hpz388,hcz388⟩:=((hP381.ext e386).ho).rowAt (i:=k) (by omega)
   obtain⟨pz389,sz389,Bz389,nz389,cz389,hpz389,ldz389,hKz389,zz389⟩:=((hP381.ext e386).hc).at (hP381.per.lt k (by omega)) (show j<cc by omega)
   have zz389:=zz389.cast (hP381.ent k j (by omega) (by omega)).symm
   obtain⟨pz390,hpz390,hcz390⟩:=((hP381.ext e386).ho).rowAt (i:=q) (by omega)
   obtain⟨pz391,sz391,Bz391,nz391,cz391,hpz391,ldz391,hKz391,zz391⟩:=((hP381.ext e386).hc).at (hP381.per.lt q (by omega)) (show j<cc by omega)
   have zz391:=zz391.cast (hP381.ent q j (by omega) (by omega)).symm
   refine cw_twin mix 41 [F0,S0] [.bool sz389,.slice Bz389 nz389 cz389] [.bool sz391,.slice Bz391 nz391 cz391] 20 22 9 21 23 19 [.pointer (some ⟨gl,0,none⟩),.pointer (some ⟨gl,0,none⟩),.pointer (some ⟨gl,0,none⟩),.slice RA n rcap,.int .i64 ((k:Nat):Int),.pointer (some pz388),.slice (ra (ps381.getD k 0)) cc (rc (ps381.getD k 0)),.int .i64 ((j:Nat):Int),.pointer (some pz389),.agg #[.bool sz389,.slice Bz389 nz389 cz389],.pointer (some ⟨gl,0,none⟩),.pointer (some ⟨gl,0,none⟩),.pointer (some ⟨gl,0,none⟩),.slice RA n rcap,.int .i64 ((q:Nat):Int),.pointer (some pz390),.slice (ra (ps381.getD q 0)) cc (rc (ps381.getD q 0)),.int .i64 ((j:Nat):Int),.pointer (some pz391),.agg #[.bool sz391,.slice Bz391 nz391 cz391],undef,undef,undef,undef] [0,1,2,3,4,5,6,7,8,9,10,11,12,13,14,15,16,17,18,19] [[],[0],[1],[2],[],[3,4],[5],[],[6,7],[8],[],[10],[11],[12],[],[13,14],[15],[],[16,17],[18],[],[],[],[]] [[],[0],[0,1],[0,1,2],[],[0,1,2,3,4],[0,1,2,3,4,5],[],[0,1,2,3,4,5,6,7],[0,1,2,3,4,5,6,7,8],[],[10],[10,11],[10,11,12],[],[10,11,12,13,14],[10,11,12,13,14,15],[],[10,11,12,13,14,15,16,17],[10,11,12,13,14,15,16,17,18],[],[],[0,1,2,3,4,5,6,7,8,9,20,21],[0,1,2,3,4,5,6,7,8,9,10,11,12,13,14,15,16,17,18,19,20,21,22]] [(0,0),(0,1),(0,2),(1,0),(1,1),(1,2),(2,0),(2,1),(2,2),(3,0),(3,1),(3,2),(4,0),(4,1),(4,2),(5,0),(5,1),(5,2),(6,0),(6,1),(6,2),(7,0),(7,1),(7,2),(8,0),(8,1),(8,2),(9,0),(9,1),(9,2),(10,0),(10,1),(10,2),(11,0),(11,1),(11,2),(12,0),(12,1),(12,2),(13,0),(13,1),(13,2),(14,0),(14,1),(14,2),(15,0),(15,1),(15,2),(16,0),(16,1),(16,2),(17,0),(17,1),(17,2),(18,0),(18,1),(18,2),(19,0),(19,1),(19,2),(20,0),(20,1),(20,2),(21,0),(21,1),(21,2),(22,0),(22,1),(22,2),(23,0),(23,1),(23,2)] rfl rfl (makes rfl (z:= .agg #[F0,S0]) (fun _=>by kernel_rfl) rfl) (makes rfl (z:= .agg #[F0,S0]) (fun _=>by kernel_rfl) rfl) (fills rfl rfl rfl rfl (fun _ _=>rfl) (fun _ _=>rfl) aggInt rfl rfl rfl) (fills rfl rfl rfl rfl (fun _ _=>rfl) (fun _ _=>rfl) aggInt rfl rfl rfl) ?_ ?_
   · 
    refine vobs_cons rfl rfl rfl (fun v392 e393=>(rd_move rfl)) (vobs_cons rfl rfl rfl (fun v394 e395=>(rd_pure rfl (by kernel_rfl))) (vobs_cons rfl rfl rfl (fun v396 e397=>(rd_pure rfl (by kernel_rfl))) (vobs_cons rfl rfl rfl (fun v398 e399=>(rd_load rfl (load_cell cellRows (hP381.ext (e386.trans e399)).bl rfl))) (vobs_cons rfl rfl rfl (fun v400 e401=>(rd_move rfl)) (vobs_cons rfl rfl rfl (fun v402 e403=>(rd_idx rfl rfl unRows szInts k rfl (by omega) pz388 hpz388)) (vobs_cons rfl rfl rfl (fun v404 e405=>(rd_load rfl (load_cell1 cellInts (e405.cell hcz388)))) (vobs_cons rfl rfl rfl (fun v406 e407=>(rd_move rfl)) (vobs_cons rfl rfl rfl (fun v408 e409=>(rd_idx rfl rfl elemI aggInt.size j rfl (by omega) pz389 hpz389)) (vobs_cons rfl rfl rfl (fun v410 e411=>(rd_load rfl (ldz389 _ e411 _ _ aggInt))) (vobs_cons rfl rfl rfl (fun v412 e413=>(rd_move rfl)) (vobs_cons rfl rfl rfl (fun v414 e415=>(rd_pure rfl (by kernel_rfl))) (vobs_cons rfl rfl rfl (fun v416 e417=>(rd_pure rfl (by kernel_rfl))) (vobs_cons rfl rfl rfl (fun v418 e419=>(rd_load rfl (load_cell cellRows (hP381.ext (e386.trans e419)).bl rfl))) ?_)))))))))))))
    refine vobs_cons rfl rfl rfl (fun v420 e421=>(rd_move rfl)) (vobs_cons rfl rfl rfl (fun v422 e423=>(rd_idx rfl rfl unRows szInts q rfl (by omega) pz390 hpz390)) (vobs_cons rfl rfl rfl (fun v424 e425=>(rd_load rfl (load_cell1 cellInts (e425.cell hcz390)))) (vobs_cons rfl rfl rfl (fun v426 e427=>(rd_move rfl)) (vobs_cons rfl rfl rfl (fun v428 e429=>(rd_idx rfl rfl elemI aggInt.size j rfl (by omega) pz391 hpz391)) (vobs_cons rfl rfl rfl (fun v430 e431=>(rd_load rfl (ldz391 _ e431 _ _ aggInt))) ?_)))))
    exact trivial
   · 
    intro g432 g433 v434 e435 q436 ge437 ge438 hb439 hb440
    have q441:g358<g432:=Nat.lt_of_lt_of_le (((hb369.ext e374).upS us379 (fun q=>absurd (hLS _ q) (by have:=ge360;omega))).ext e386).lt ge437
    have ge437:w.heap.size≤g432:=Nat.le_trans hw6.size ge437
    have q442:g358<g433:=Nat.lt_of_lt_of_le (((hb369.ext e374).upS us379 (fun q=>absurd (hLS _ q) (by have:=ge360;omega))).ext e386).lt ge438
    have ge438:w.heap.size≤g433:=Nat.le_trans hw6.size ge438
    have hw7:UpS (LS n gl gs gr RA ra) w v434:=hw6.ext e435
    refine eo_keep [(0,.pointer (some ⟨gl,0,none⟩)),(1,.int .i64 ((k:Nat):Int)),(2,.int .i64 ((q:Nat):Int)),(3,.int .i64 ((j:Nat):Int)),(21,.pointer (some ⟨gl,0,none⟩)),(22,.pointer (some ⟨gl,0,none⟩)),(23,.pointer (some ⟨gl,0,none⟩)),(24,.slice RA n rcap),(25,.int .i64 ((q:Nat):Int)),(26,.pointer (some pz2)),(27,.slice (ra (ps1.getD q 0)) cc (rc (ps1.getD q 0))),(28,.int .i64 ((j:Nat):Int)),(29,.pointer (some pz3)),(30,.agg #[.bool sz3,.slice Bz3 nz3 cz3]),(31,.pointer (some ⟨gl,0,none⟩)),(32,.pointer (some ⟨gl,0,none⟩)),(33,.pointer (some ⟨gl,0,none⟩)),(34,.slice RA n rcap),(35,.int .i64 ((k:Nat):Int)),(36,.pointer (some pz4)),(37,.slice (ra (ps1.getD k 0)) cc (rc (ps1.getD k 0))),(38,.int .i64 ((j:Nat):Int)),(39,.pointer (some pz5)),(40,.agg #[.bool sz5,.slice Bz5 nz5 cz5]),(41,.tuple #[.agg #[.bool s318,.slice A318 n318 c318],.agg #[.bool s319,.slice A319 n319 c319],I0]),(20,.tuple #[.agg #[.bool s326,.slice A326 n326 c326],.agg #[.bool s327,.slice A327 n327 c327],I0]),(42,.agg #[.bool s333,.slice A333 n333 c333]),(43,.agg #[.bool s339,.slice A339 n339 c339]),(44,.int .i64 0),(8,.pointer (some ⟨g350,0,none⟩)),(9,.pointer (some ⟨g358,0,none⟩)),(10,.int .i64 0),(45,.pointer (some ⟨gl,0,none⟩)),(46,.int .i64 ((q:Nat):Int)),(47,.int .i64 ((k:Nat):Int)),(48,.agg #[.bool s333,.slice A333 n333 c333]),(49,.agg #[.bool s376,.slice A376 n376 c376]),(50,.tuple #[]),(51,.agg #[.bool s339,.slice A339 n339 c339]),(52,.int .i64 (scmp ((Z q j)%(Z k j)) 0)),(53,.bool false),(54,.pointer (some ⟨gl,0,none⟩)),(55,.pointer (some ⟨gl,0,none⟩)),(56,.pointer (some ⟨gl,0,none⟩)),(57,.slice RA n rcap),(58,.int .i64 ((k:Nat):Int)),(59,.pointer (some pz388)),(60,.slice (ra (ps381.getD k 0)) cc (rc (ps381.getD k 0))),(61,.int .i64 ((j:Nat):Int)),(62,.pointer (some pz389)),(63,.agg #[.bool sz389,.slice Bz389 nz389 cz389]),(64,.pointer (some ⟨gl,0,none⟩)),(65,.pointer (some ⟨gl,0,none⟩)),(66,.pointer (some ⟨gl,0,none⟩)),(67,.slice RA n rcap),(68,.int .i64 ((q:Nat):Int)),(69,.pointer (some pz390)),(70,.slice (ra (ps381.getD q 0)) cc (rc (ps381.getD q 0))),(71,.int .i64 ((j:Nat):Int)),(72,.pointer (some pz391)),(73,.agg #[.bool sz391,.slice Bz391 nz391 cz391]),(11,.pointer (some ⟨g432,0,none⟩)),(12,.pointer (some ⟨g433,0,none⟩))] ⟨rfl,rfl,rfl,rfl,rfl,rfl,rfl,rfl,rfl,rfl,rfl,rfl,rfl,rfl,rfl,rfl,rfl,rfl,rfl,rfl,rfl,rfl,rfl,rfl,rfl,rfl,rfl,rfl,rfl,rfl,rfl,rfl,rfl,rfl,rfl,rfl,rfl,rfl,rfl,rfl,rfl,rfl,rfl,rfl,rfl,rfl,rfl,rfl,rfl,rfl,rfl,rfl,rfl,rfl,rfl,rfl,rfl,rfl,rfl,rfl,rfl,rfl,rfl,trivial⟩ (eo_then (sr (lo aggInt hb439 [.bool sz389,.slice Bz389 nz389 cz389] rfl rfl rfl (lo aggInt hb440 [.bool sz391,.slice Bz391 nz391 cz391] rfl rfl rfl (wl_call rfl rfl (vs:= [.agg #[.bool sz389,.slice Bz389 nz389 cz389],.agg #[.bool sz391,.slice Bz391 nz391 cz391]]) (by kernel_rfl) (by decide) (g_ExtM hw7.size (zz389.ext e435).zi (zz389.le (Nat.le_trans (Nat.le_trans hS.p (show B≤17179869184 by omega)) (by decide))) (zz391.ext e435).zi (zz391.le (Nat.le_trans (Nat.le_trans hS.v (show B≤17179869184 by omega)) (by decide)))) ?_)))))
    rintro _ v443 ⟨xr445,rfl,r445,e444⟩
    refine ret_intro ?_
    have hw8:UpS (LS n gl gs gr RA ra) w v443:=hw7.ext e444
    obtain⟨_,_,_,rfl,⟨s447,A447,n447,c447,rfl,z447⟩,⟨s448,A448,n448,c448,rfl,z448⟩,⟨s449,A449,n449,c449,rfl,z449⟩⟩:=r445
    refine mv 1 rfl (pu (v:= .agg #[.bool s447,.slice A447 n447 c447]) rfl (by kernel_rfl) (pu (v:= .agg #[.bool s448,.slice A448 n448 c448]) rfl (by kernel_rfl) (pu (v:= .agg #[.bool s449,.slice A449 n449 c449]) rfl (by kernel_rfl) (wl_alloc rfl (z:= .agg #[F0,S0]) (vs:= [F0,S0]) (fun _=>by kernel_rfl) rfl (by decide) fun g450 v451 nb=>?_))))
    have hb453:=nb.bk
    have ge454:w.heap.size≤g450:=by rw [←nb.at_];exact hw8.size
    have q455:g432<g450:=by rw [←nb.at_];exact (hb439.ext e444).lt
    have q456:g433<g450:=by rw [←nb.at_];exact (hb440.ext e444).lt
    have e452:=nb.ext
    clear nb
    have hw9:UpS (LS n gl gs gr RA ra) w v451:=hw8.ext e452
    refine wl_alloc rfl (z:= .agg #[F0,S0]) (vs:= [F0,S0]) (fun _=>by kernel_rfl) rfl (by decide) fun g457 v458 nb=>?_
    have hb460:=nb.bk
    have ge461:w.heap.size≤g457:=by rw [←nb.at_];exact hw9.size
    have q462:g450<g457:=by rw [←nb.at_];exact hb453.lt
    have e459:=nb.ext
    clear nb
    have hw10:UpS (LS n gl gs gr RA ra) w v458:=hw9.ext e459
    refine wl_alloc rfl (z:= .agg #[F0,S0]) (vs:= [F0,S0]) (fun _=>by kernel_rfl) rfl (by decide) fun g463 v464 nb=>?_
    have hb466:=nb.bk
    have ge467:w.heap.size≤g463:=by rw [←nb.at_];exact hw10.size
    have q468:g457<g463:=by rw [←nb.at_];exact hb460.lt
    have e465:=nb.ext
    clear nb
    have hw11:UpS (LS n gl gs gr RA ra) w v464:=hw10.ext e465
    have hb470:=(hb453.ext (e459.trans e465))
    refine wl_stored rfl rfl rfl aggInt rfl hb470 (bq rfl) rfl [.bool s447,.slice A447 n447 c447] rfl fun v469 hb471 u472 hs473=>?_
    have hw12:UpS (LS n gl gs gr RA ra) w v469:=hw11.upd u472 ge454
    have hb475:=((hb460.ext e465).updN u472 (by omega))
    refine wl_stored rfl rfl rfl aggInt rfl hb475 (bq rfl) rfl [.bool s448,.slice A448 n448 c448] rfl fun v474 hb476 u477 hs478=>?_
    have hw13:UpS (LS n gl gs gr RA ra) w v474:=hw12.upd u477 ge461
    have hb480:=((hb466.updN u472 (by omega)).updN u477 (by omega))
    refine wl_stored rfl rfl rfl aggInt rfl hb480 (bq rfl) rfl [.bool s449,.slice A449 n449 c449] rfl fun v479 hb481 u482 hs483=>?_
    have hw14:UpS (LS n gl gs gr RA ra) w v479:=hw13.upd u482 ge467
    refine ne_ (sr (lo aggInt ((((hb439.ext (e444.trans (e452.trans (e459.trans e465)))).updN u472 (by omega)).updN u477 (by omega)).updN u482 (by omega)) [.bool sz389,.slice Bz389 nz389 cz389] rfl rfl rfl (lo aggInt ((hb471.updN u477 (by omega)).updN u482 (by omega)) [.bool s447,.slice A447 n447 c447] rfl rfl rfl (wl_call rfl rfl (vs:= [.agg #[.bool sz389,.slice Bz389 nz389 cz389],.agg #[.bool s447,.slice A447 n447 c447]]) (by kernel_rfl) (by decide) (g_zint_Exact hw14.size ((((zz389.ext (e435.trans (e444.trans (e452.trans (e459.trans e465))))).updT hb470 u472).updT hb475 u477).updT hb480 u482).zi (zz389.le (Nat.le_trans (Nat.le_trans hS.p (show B≤17179869184 by omega)) (by decide))) ((((z447.ext (e452.trans (e459.trans e465))).updT hb470 u472).updT hb475 u477).updT hb480 u482).zi (z447.le (Nat.le_trans (Nat.le_trans (ln_gcd _ _) (Nat.max_le.2 ⟨Nat.le_trans hS.p hB34,Nat.le_trans hS.v hB34⟩)) (by decide))) hg0 (Int.gcd_dvd_left _ _)) ?_))))
    rintro _ v484 ⟨xr486,rfl,r486,e485⟩
    refine ret_intro ?_
    have hw15:UpS (LS n gl gs gr RA ra) w v484:=hw14.ext e485
    obtain⟨_,_,rfl,⟨s488,A488,n488,c488,rfl,z488⟩,rfl⟩:=r486
    refine mv 1 rfl (pu (v:= .agg #[.bool s488,.slice A488 n488 c488]) rfl (by kernel_rfl) (pu (v:= .int .i64 0) rfl (by kernel_rfl) (wl_alloc rfl (z:= .agg #[F0,S0]) (vs:= [F0,S0]) (fun _=>by kernel_rfl) rfl (by decide) fun g489 v490 nb=>?_)))
    have hb492:=nb.bk
    have ge493:w.heap.size≤g489:=by rw [←nb.at_];exact hw15.size
    have q494:g463<g489:=by rw [←nb.at_];exact (hb481.ext e485).lt
    have e491:=nb.ext
    clear nb
    have hw16:UpS (LS n gl gs gr RA ra) w v490:=hw15.ext e491
    refine wl_stored rfl rfl rfl aggInt rfl hb492 (bq rfl) rfl [.bool s488,.slice A488 n488 c488] rfl fun v495 hb497 u498 hs499=>?_
    have hw17:UpS (LS n gl gs gr RA ra) w v495:=hw16.upd u498 ge493
    refine mv 1 rfl (ne_ (sr (lo aggInt ((((((hb440.ext (e444.trans (e452.trans (e459.trans e465)))).updN u472 (by omega)).updN u477 (by omega)).updN u482 (by omega)).ext (e485.trans e491)).updN u498 (by omega)) [.bool sz391,.slice Bz391 nz391 cz391] rfl rfl rfl (lo aggInt ((((hb471.updN u477 (by omega)).updN u482 (by omega)).ext (e485.trans e491)).updN u498 (by omega)) [.bool s447,.slice A447 n447 c447] rfl rfl rfl (wl_call rfl rfl (vs:= [.agg #[.bool sz391,.slice Bz391 nz391 cz391],.agg #[.bool s447,.slice A447 n447 c447]]) (by kernel_rfl) (by decide) (g_zint_Exact hw17.size ((((((zz391.ext (e435.trans (e444.trans (e452.trans (e459.trans e465))))).updT hb470 u472).updT hb475 u477).updT hb480 u482).ext (e485.trans e491)).updT hb492 u498).zi (zz391.le (Nat.le_trans (Nat.le_trans hS.v (show B≤17179869184 by omega)) (by decide))) ((((((z447.ext (e452.trans (e459.trans e465))).updT hb470 u472).updT hb475 u477).updT hb480 u482).ext (e485.trans e491)).updT hb492 u498).zi (z447.le (Nat.le_trans (Nat.le_trans (ln_gcd _ _) (Nat.max_le.2 ⟨Nat.le_trans hS.p hB34,Nat.le_trans hS.v hB34⟩)) (by decide))) hg0 (Int.gcd_dvd_right _ _)) ?_)))))
    rintro _ v500 ⟨xr502,rfl,r502,e501⟩
    refine ret_intro ?_
    have hw18:UpS (LS n gl gs gr RA ra) w v500:=hw17.ext e501
    obtain⟨_,_,rfl,⟨s504,A504,n504,c504,rfl,z504⟩,rfl⟩:=r502
    refine mv 1 rfl (pu (v:= .agg #[.bool s504,.slice A504 n504 c504]) rfl (by kernel_rfl) (pu (v:= .int .i64 0) rfl (by kernel_rfl) (wl_alloc rfl (z:= .agg #[F0,S0]) (vs:= [F0,S0]) (fun _=>by kernel_rfl) rfl (by decide) fun g505 v506 nb=>?_)))
    have hb508:=nb.bk
    have ge509:w.heap.size≤g505:=by rw [←nb.at_];exact hw18.size
    have q510:g489<g505:=by rw [←nb.at_];exact (hb497.ext e501).lt
    have e507:=nb.ext
    clear nb
    have hw19:UpS (LS n gl gs gr RA ra) w v506:=hw18.ext e507
    refine wl_stored rfl rfl rfl aggInt rfl hb508 (bq rfl) rfl [.bool s504,.slice A504 n504 c504] rfl fun v511 hb513 u514 hs515=>?_
    have hw20:UpS (LS n gl gs gr RA ra) w v511:=hw19.upd u514 ge509
    refine mv 1 rfl (ne_ ?_)
    have L516:ln (-(((mtX k q j Z) q j).tdiv (Int.gcd ((mtX k q j Z) k j) ((mtX k q j Z) q j):Int)))≤17179869184:=(by rw [ln_neg];exact (Nat.le_trans (ln_tdiv _ _) (Nat.le_trans hS.v hB34)))
    refine cw_draw mix 11 [] [Is (.pointer (some ⟨gl,0,none⟩)),Is (.int .i64 ((k:Nat):Int)),Is (.int .i64 ((q:Nat):Int)),Is (.agg #[.bool s448,.slice A448 n448 c448]),Is (.agg #[.bool s449,.slice A449 n449 c449]),Is (.agg #[.bool s448,.slice A448 n448 c448,.bool s449,.slice A449 n449 c449]),Is (.agg #[.bool s504,.slice A504 n504 c504]),ZR w.heap.size (-(((mtX k q j Z) q j).tdiv (Int.gcd ((mtX k q j Z) k j) ((mtX k q j Z) q j):Int))),Is (.agg #[.bool s488,.slice A488 n488 c488]),fun v' w'=>∃s0 A0 n0 c0,v'= .agg #[.bool s0,.slice A0 n0 c0,.bool s488,.slice A488 n488 c488]∧Zr w' w.heap.size s0 A0 n0 c0 (-(((mtX k q j Z) q j).tdiv (Int.gcd ((mtX k q j Z) k j) ((mtX k q j Z) q j):Int))),fun v' w'=>∃s2 A2 n2 c2,v'= .agg #[.bool s448,.slice A448 n448 c448,.bool s449,.slice A449 n449 c449,.bool s2,.slice A2 n2 c2,.bool s488,.slice A488 n488 c488]∧Zr w' w.heap.size s2 A2 n2 c2 (-(((mtX k q j Z) q j).tdiv (Int.gcd ((mtX k q j Z) k j) ((mtX k q j Z) q j):Int)))] [[],[],[],[],[],[3,4],[],[6],[],[7,8],[5,9]] [[],[],[],[],[],[3,4],[],[6],[],[6,7,8],[3,4,5,6,7,8,9],[0,1,2,3,4,5,6,7,8,9,10]] rfl
     (obs_cons rfl rfl (hob rfl rfl ?_) (obs_cons rfl rfl (hob rfl rfl ?_) (obs_cons rfl rfl (hob rfl rfl ?_) (obs_cons rfl rfl (hob rfl rfl ?_) (obs_cons rfl rfl (hob rfl rfl ?_) (obs_cons rfl rfl (hob rfl rfl ?_) (obs_cons rfl rfl (hob rfl rfl ?_) (obs_cons rfl rfl (hob rfl rfl ?_) (obs_cons rfl rfl (hob rfl rfl ?_) (obs_cons rfl rfl (hob rfl rfl ?_) (obs_cons rfl rfl (hob rfl rfl ?_) obs_nil))))))))))) ?_
    · 
     intro v520 e521
     have hw21:UpS (LS n gl gs gr RA ra) w v520:=hw20.ext e521
     refine deps_nil (mv 1 rfl ?_)
     exact pi_done rfl (Ext.refl _) rfl
    · 
     intro v522 e523
     have hw21:UpS (LS n gl gs gr RA ra) w v522:=hw20.ext e523
     refine deps_nil (mv 1 rfl ?_)
     exact pi_done rfl (Ext.refl _) rfl
    · 
     intro v524 e525
     have hw21:UpS (LS n gl gs gr RA ra) w v524:=hw20.ext e525
     refine deps_nil (mv 1 rfl ?_)
     exact pi_done rfl (Ext.refl _) rfl
    · 
     intro v526 e527
     have hw21:UpS (LS n gl gs gr RA ra) w v526:=hw20.ext e527
     refine deps_nil (lo aggInt ((((((hb476.updN u482 (by omega)).ext (e485.trans e491)).updN u498 (by omega)).ext (e501.trans e507)).updN u514 (by omega)).ext e527) [.bool s448,.slice A448 n448 c448] rfl rfl rfl ?_)
     exact pi_done rfl (Ext.refl _) rfl
    · 
     intro v528 e529
     have hw21:UpS (LS n gl gs gr RA ra) w v528:=hw20.ext e529
     refine deps_nil (lo aggInt (((((hb481.ext (e485.trans e491)).updN u498 (by omega)).ext (e501.trans e507)).updN u514 (by omega)).ext e529) [.bool s449,.slice A449 n449 c449] rfl rfl rfl ?_)
     exact pi_done rfl (Ext.refl _) rfl
    · 
     intro v530 e531
     have hw21:UpS (LS n gl gs gr RA ra) w v530:=hw20.ext e531
     refine dk rfl rfl (dk rfl rfl (deps_nil (pu (v:= .agg #[.bool s448,.slice A448 n448 c448,.bool s449,.slice A449 n449 c449]) rfl (by kernel_rfl) ?_)))
     exact pi_done rfl (Ext.refl _) rfl
    · 
     intro v542 e543
     have hw21:UpS (LS n gl gs gr RA ra) w v542:=hw20.ext e543
     refine deps_nil (lo aggInt (hb513.ext e543) [.bool s504,.slice A504 n504 c504] rfl rfl rfl ?_)
     exact pi_done rfl (Ext.refl _) rfl
    · 
     intro v544 e545
     have hw21:UpS (LS n gl gs gr RA ra) w v544:=hw20.ext e545
     refine dk rfl rfl (deps_nil ?_)
     have L551:ln (-(((mtX k q j Z) q j).tdiv (Int.gcd ((mtX k q j Z) k j) ((mtX k q j Z) q j):Int)))≤17179869184:=(by rw [ln_neg];exact (Nat.le_trans (ln_tdiv _ _) (Nat.le_trans hS.v hB34)))
     refine wl_call rfl rfl (vs:= [.agg #[.bool s504,.slice A504 n504 c504]]) (by kernel_rfl) (by decide) (g_zint_Neg hw21.size (((z504.ext e507).updT hb508 u514).ext e545).zi (z504.le (Nat.le_trans (Nat.le_trans (ln_tdiv _ _) (Nat.le_trans hS.v hB34)) (by decide)))) ?_
     rintro _ v552 ⟨xr554,rfl,r554,e553⟩
     refine ret_intro ?_
     have hw22:UpS (LS n gl gs gr RA ra) w v552:=hw21.ext e553
     obtain⟨s555,A555,n555,c555,rfl,z555⟩:=r554
     exact pi_done rfl e553 ⟨_,_,_,_,rfl,z555⟩
    · 
     intro v556 e557
     have hw21:UpS (LS n gl gs gr RA ra) w v556:=hw20.ext e557
     refine deps_nil (lo aggInt (((hb497.ext (e501.trans e507)).updN u514 (by omega)).ext e557) [.bool s488,.slice A488 n488 c488] rfl rfl rfl ?_)
     exact pi_done rfl (Ext.refl _) rfl
    · 
     intro v558 e559
     have hw21:UpS (LS n gl gs gr RA ra) w v558:=hw20.ext e559
     refine deps_cons rfl rfl fun x560 y561 h562 e563 f564=>?_
     obtain⟨s565,A565,n565,c565,rfl,z565⟩:=h562
     have z565:=z565.ext f564
     refine dk rfl rfl (deps_nil (pu (v:= .agg #[.bool s565,.slice A565 n565 c565,.bool s488,.slice A488 n488 c488]) rfl (by kernel_rfl) ?_))
     exact pi_done rfl (Ext.refl _) ⟨_,_,_,_,rfl,z565⟩
    · 
     intro v571 e572
     have hw21:UpS (LS n gl gs gr RA ra) w v571:=hw20.ext e572
     refine dk rfl rfl (deps_cons rfl rfl fun x578 y579 h580 e581 f582=>?_)
     obtain⟨s583,A583,n583,c583,rfl,z583⟩:=h580
     have z583:=z583.ext f582
     refine deps_nil (pu (v:= .agg #[.bool s448,.slice A448 n448 c448,.bool s449,.slice A449 n449 c449,.bool s583,.slice A583 n583 c583,.bool s488,.slice A488 n488 c488]) rfl (by kernel_rfl) ?_)
     exact pi_done rfl (Ext.refl _) ⟨_,_,_,_,rfl,z583⟩
    · 
     intro v584 e585
     have hw21:UpS (LS n gl gs gr RA ra) w v584:=hw20.ext e585
     refine dk rfl rfl (dk rfl rfl (dk rfl rfl (dk rfl rfl (dk rfl rfl (dk rfl rfl (dk rfl rfl (deps_cons rfl rfl fun x621 y622 h623 e624 f625=>?_)))))))
     obtain⟨s626,A626,n626,c626,rfl,z626⟩:=h623
     have z626:=z626.ext f625
     refine dk rfl rfl (deps_cons rfl rfl fun x632 y633 h634 e635 f636=>?_)
     obtain⟨s637,A637,n637,c637,rfl,z637⟩:=h634
     have z637:=z637.ext f636
     refine deps_cons rfl rfl fun x638 y639 h640 e641 f642=>?_
     obtain⟨s643,A643,n643,c643,rfl,z643⟩:=h640
     have z643:=z643.ext f642
     refine deps_nil (wl_call rfl rfl (vs:= [.pointer (some ⟨gl,0,none⟩),.int .i64 ((k:Nat):Int),.int .i64 ((q:Nat):Int),.agg #[.bool s448,.slice A448 n448 c448,.bool s449,.slice A449 n449 c449,.bool s643,.slice A643 n643 c643,.bool s488,.slice A488 n488 c488]]) (by kernel_rfl) (by decide) (g_ladM_mix (((((((((hP381.ext (e386.trans (e435.trans (e444.trans (e452.trans (e459.trans e465)))))).updT hb470 u472 (fun q=>absurd (hLS _ q) (by have:=ge454;omega))).updT hb475 u477 (fun q=>absurd (hLS _ q) (by have:=ge461;omega))).updT hb480 u482 (fun q=>absurd (hLS _ q) (by have:=ge467;omega))).ext (e485.trans e491)).updT hb492 u498 (fun q=>absurd (hLS _ q) (by have:=ge493;omega))).ext (e501.trans e507)).updT hb508 u514 (fun q=>absurd (hLS _ q) (by have:=ge509;omega))).ext e585).ldr (Nat.le_trans hlb hw21.size) hcc hk2 hq2 hS.ne (((((((((z448.ext (e452.trans (e459.trans e465))).updT hb470 u472).updT hb475 u477).updT hb480 u482).ext (e485.trans e491)).updT hb492 u498).ext (e501.trans e507)).updT hb508 u514).ext e585) (Nat.le_trans hS.x1 hB2) (((((((((z449.ext (e452.trans (e459.trans e465))).updT hb470 u472).updT hb475 u477).updT hb480 u482).ext (e485.trans e491)).updT hb492 u498).ext (e501.trans e507)).updT hb508 u514).ext e585) (Nat.le_trans hS.x2 hB2) z643 (Nat.le_trans hS.x3 hB2) (((((z488.ext e491).updT hb492 u498).ext (e501.trans e507)).updT hb508 u514).ext e585) (Nat.le_trans hS.x4 hB2) (fun b hb=>Nat.le_trans (hS.lin1 hS.x2 hb) hK) (fun b hb=>Nat.le_trans (hS.lin1 hS.x4 hb) hK) (fun b hb=>Nat.le_trans (hS.lin hS.x1 hS.x2 hb) hK) (fun b hb=>Nat.le_trans (hS.lin hS.x3 hS.x4 hb) hK)) ?_)
     rintro _ v644 ⟨rfl,hl645,us646⟩
     refine ret_intro ?_
     have no647:=(((((((((hP381.ext (e386.trans (e435.trans (e444.trans (e452.trans (e459.trans e465)))))).updT hb470 u472 (fun q=>absurd (hLS _ q) (by have:=ge454;omega))).updT hb475 u477 (fun q=>absurd (hLS _ q) (by have:=ge461;omega))).updT hb480 u482 (fun q=>absurd (hLS _ q) (by have:=ge467;omega))).ext (e485.trans e491)).updT hb492 u498 (fun q=>absurd (hLS _ q) (by have:=ge493;omega))).ext (e501.trans e507)).updT hb508 u514 (fun q=>absurd (hLS _ q) (by have:=ge509;omega))).ext e585).ldr.no64
     have hw22:UpS (LS n gl gs gr RA ra) w v644:=hw21.trans us646
     obtain⟨ps648,Y648,hP648⟩:=(hl645).op
     refine wl_nil (eo_np (eo_end [] rfl trivial ?_))
     exact⟨rfl,hP648.ldr.cong (fun a b _ _=>by rw [meetF_nz hS.ne hx0]),hw22⟩
section
variable {c k q j S B:Nat}{Z:Mx}
theorem meetF_ne {E:Int→Int→Int×Int}{r:Nat}(h1:r≠k) (h2:r≠q):meetF E k q j Z r=Z r:=by
 unfold meetF
 split
 ·exact adR_ne _ _ _ h2
 ·rw [mxR_ne _ _ _ _ _ h1 h2];exact adR_ne _ _ _ h2
theorem Szm.out (h:Szm c k q j S B Z){b:Nat}(hb:b<c):ln (meetF Ebz k q j Z k b)≤S+2*B+4∧ln (meetF Ebz k q j Z q b)≤S+2*B+4:=by
 by_cases h0:Z q j%Z k j=0
 ·rw [meetF_z h0]
  have h1:=h.xk hb
  have h2:=h.xq hb
  exact⟨by omega,by omega⟩
 ·rw [meetF_nz h.ne h0,mxR_i,mxR_j h.ne]
  exact⟨h.lin h.x1 h.x2 hb,h.lin h.x3 h.x4 hb⟩
end
structure PL (c d B:Nat) (Z:Mx) (u a:Nat) (Y:Mx):Prop where
 pi:PI c d Z a Y
 eq:∃f,c<f+ldr c (Y d)∧putL Ebz c d (c+1) 0 Z=putL Ebz c d f a Y
 lo:u≤ldr c (Y d)
 sz:∀i b,i≤d→b<c→ln (Y i b)≤B+u*(2*B+4)
section
variable {c d B u a a1:Nat}{Z Y:Mx}
theorem PL.start (hz:Ech c d Z) (h:∀i b,i≤d→b<c→ln (Z i b)≤B):PL c d B Z 0 0 Z:=
 ⟨PI.start hz,⟨c+1,by omega,rfl⟩,Nat.zero_le _,fun i b hi hb=>Nat.le_trans (h i b hi hb) (by omega)⟩
theorem PL.none (h:PL c d B Z u a Y) (e:ldr c (Y d)=c):putL Ebz c d (c+1) 0 Z=(false,a,Y):=by
 obtain⟨f,hf,he⟩:=h.eq
 rw [he]
 match f,hf with
 | 0,hf=>omega
 | f+1,_=>rw [putL,if_pos e]
theorem adv_eq {j:Nat}(h1:a≤a1) (h2:a1≤d) (h3:∀r,a≤r→r<a1→ldr c (Y r)<j) (h4:a1<d→j≤ldr c (Y a1)):adv c Y j (d-a) a=a1:=by
 obtain⟨g1,g2,g3,g4⟩:=adv_spec c Y j (d-a) a
 generalize adv c Y j (d-a) a=a' at*
 rcases Nat.lt_trichotomy a' a1 with e | e | e
 ·have:=g4 (by omega);have:=h3 a' g1 e;omega
 ·exact e
 ·have:=g3 a1 h1 e;have:=h4 (by omega);omega
theorem PL.brk (h:PL c d B Z u a Y) (hl:ldr c (Y d)<c) (ha:adv c Y (ldr c (Y d)) (d-a) a=a1) (hb:a1=d∨ldr c (Y a1)≠ldr c (Y d)):putL Ebz c d (c+1) 0 Z=(true,a1,Y):=by
 obtain⟨f,hf,he⟩:=h.eq
 rw [he]
 match f,hf with
 | 0,hf=>omega
 | f+1,_=>rw [putL,if_neg (by omega),ha,if_pos hb]
theorem PL.szm (h:PL c d B Z u a Y) (hZ:∀i b,i≤d→b<c→ln (Z i b)≤B) (hl:ldr c (Y d)<c) (ha:adv c Y (ldr c (Y d)) (d-a) a=a1) (h1:a1<d) (h2:ldr c (Y a1)=ldr c (Y d)):Szm c a1 d (ldr c (Y d)) (B+u*(2*B+4)) B Y:=by
 obtain⟨g1,g2,g3,g4⟩:=h.pi.advs
 rw [ha] at g4
 obtain⟨g5,g6⟩:=g4 h1
 refine⟨by omega,hl,by rw [←h2];exact h.pi.pos a1 h1,fun b hb=>by rw [g6 a1 (Nat.le_refl _) h1];exact hZ a1 b (by omega) hb,fun b hb=>h.sz d b (Nat.le_refl _) hb⟩
theorem PL.met (h:PL c d B Z u a Y) (hZ:∀i b,i≤d→b<c→ln (Z i b)≤B) (hl:ldr c (Y d)<c) (ha:adv c Y (ldr c (Y d)) (d-a) a=a1) (h1:a1<d) (h2:ldr c (Y a1)=ldr c (Y d)):
  PL c d B Z (ldr c (Y d)+1) a1 (meetF Ebz a1 d (ldr c (Y d)) Y):=by
 have hm:=h.szm hZ hl ha h1 h2
 obtain⟨k1,k2⟩:=h.pi.step Ebz_ok ha.symm rfl hl h1 h2
 have k3:ldr c (Y d)+1≤ldr c (meetF Ebz a1 d (ldr c (Y d)) Y d):=ldr_low (fun b hb _=>k2 b (by omega)) (by omega)
 obtain⟨f,hf,he⟩:=h.eq
 have hlo:=h.lo
 refine⟨k1,?_,k3,fun i b hi hb=>?_⟩
 ·match f,hf with
  | 0,hf=>omega
  | f+1,hf=>
   refine⟨f,by omega,?_⟩
   rw [he,putL,if_neg (by omega),ha,if_neg (fun q=>by rcases q with q | q <;> omega)]
 ·have h3:=Nat.mul_le_mul_right (2*B+4) (show u+1≤ldr c (Y d)+1 by omega)
  rw [Nat.succ_mul] at h3
  obtain⟨o1,o2⟩:=hm.out hb
  by_cases e:i=a1
  ·rw [e];omega
  ·by_cases e2:i=d
   ·rw [e2];omega
   ·rw [meetF_ne e e2];have:=h.sz i b hi hb;omega
theorem PL.ent (h:PL c d B Z u a Y) (hc:c≤64){i b:Nat}(hi:i≤d) (hb:b<c):ln (Y i b)≤B+64*(2*B+4):=by
 have h1:=h.sz i b hi hb
 have h2:=h.lo
 have h3:=ldr_le c (Y d)
 have h4:=Nat.mul_le_mul_right (2*B+4) (show u≤64 by omega)
 omega
theorem put_no (h:putL Ebz c d (c+1) 0 Z=(false,a,Y)):putB Ebz c d Z=false∧putF Ebz c d Z=stl c d Y:=by
 unfold putB putF;rw [h];exact⟨rfl,rfl⟩
theorem put_yes (h:putL Ebz c d (c+1) 0 Z=(true,a,Y)):putB Ebz c d Z=true∧putF Ebz c d Z=stl c (d+1) (mvU d a (sgnR c d Y)):=by
 unfold putB putF;rw [h];exact⟨rfl,rfl⟩
noncomputable def pN (c d:Nat) (Z:Mx):Nat:=if putB Ebz c d Z=true then d+1 else d
theorem PL.sztN (h:PL c d B Z u a Y) (hc:c≤64) (hz:Ech c d Z) (hF:∀i b,i<pN c d Z→b<c→ln (putF Ebz c d Z i b)≤B) (hp:putL Ebz c d (c+1) 0 Z=(false,a,Y)):Szt c d (B+64*(2*B+4)) B Y:=by
 obtain⟨e1,e2⟩:=put_no hp
 unfold pN at hF
 rw [e1,e2,if_neg (by decide)] at hF
 refine⟨⟨fun i hi=>by rw [h.pi.ld i hi];exact hz.lt i hi,fun i k hik hk=>by rw [h.pi.ld i (by omega),h.pi.ld k hk];exact hz.up i k hik hk,h.pi.pos⟩,fun i b hi hb=>h.ent hc (by omega) hb,fun i b hi hb=>hF i b hi hb⟩
theorem PL.sztY (h:PL c d B Z u a Y) (hc:c≤64) (hz:Ech c d Z) (hF:∀i b,i<pN c d Z→b<c→ln (putF Ebz c d Z i b)≤B) (hp:putL Ebz c d (c+1) 0 Z=(true,a1,Y)):Szt c (d+1) (B+64*(2*B+4)) B (mvU d a1 (sgnR c d Y)):=by
 obtain⟨e1,e2⟩:=put_yes hp
 unfold pN at hF
 rw [e1,e2,if_pos rfl] at hF
 have hpo:=put_po (c:=c) (n:=d) Ebz_ok hz
 rw [hp] at hpo
 refine⟨(po_ech hpo hz rfl).1,fun i b hi hb=>?_,fun i b hi hb=>hF i b hi hb⟩
 have han:=hpo.an
 simp only at han
 have hs:∀i,i≤d→ln (sgnR c d Y i b)≤B+64*(2*B+4):=fun i hi=>by
  unfold sgnR
  split
  ·by_cases e:i=d
   ·rw [e,tnR_at,ln_neg];exact h.ent hc (Nat.le_refl _) hb
   ·rw [tnR_ne _ e];exact h.ent hc hi hb
  ·exact h.ent hc hi hb
 unfold mvU
 split
 ·exact hs d (Nat.le_refl _)
 ·split
  ·exact hs (i-1) (by omega)
  ·exact hs i (by omega)
theorem mvU_next {s:Nat}(hs:s<d) (i b:Nat):mvU d (d-(s+1)) Y i b=swR (d-s) (d-s-1) (mvU d (d-s) Y) i b:=by
 unfold swR mvU
 by_cases e1:i=d-s
 ·subst e1
  rw [if_neg (by omega),if_pos (by omega),if_pos rfl,if_neg (by omega),if_neg (by omega)]
 ·by_cases e2:i=d-s-1
  ·subst e2
   rw [if_pos (by omega),if_neg e1,if_pos rfl,if_pos rfl]
  ·rw [if_neg (show i≠d-(s+1) by omega),if_neg e1,if_neg e2,if_neg e1]
   by_cases e3:d-(s+1)<i∧i≤d
   ·rw [if_pos e3,if_pos (by omega)]
   ·rw [if_neg e3,if_neg (by omega)]
theorem mvU_self (i b:Nat):mvU d d Y i b=Y i b:=by
 unfold mvU
 by_cases e:i=d
 ·rw [if_pos e,e]
 ·rw [if_neg e,if_neg (by omega)]
theorem sgnR_y (h:Y d (ldr c (Y d))<0):sgnR c d Y=tnR d Y:=if_pos h
theorem sgnR_n (h:¬Y d (ldr c (Y d))<0):sgnR c d Y=Y:=if_neg h
end
section
variable {lb N c gl gs gr:Nat}{RA:Option Addr}{rcap:Nat}{ra:Nat→Option Addr}{rc:Nat→Nat}{w w':World}{ps:List Nat}{Y Z:Mx}
theorem LdP.neg (h:LdP lb N c gl gs gr RA rcap ra rc w ps Y Z){i j:Nat}(hi:i<N) (hj:j<c){p:Addr}(hp:(ra (ps.getD i 0)).map (·.add (j*2))=some p){b:Bool}(hb:decide (Z i j<0)=b):w.cell? (p.add 0)=some (.bool b):=by
 obtain⟨zs,hz,he⟩:=h.rowz hi
 obtain⟨es,h1,h2,h3,h4⟩:=hz
 obtain⟨a,ha,hc⟩:=h1.rv.get (j*2) (by omega)
 rw [ha] at hp;cases hp
 have g0:=zcells_get0 es j (by omega)
 rw [List.getD_eq_getElem?_getD,g0] at hc
 have hs:=(h4 j hj).2.zr.sgn
 rw [he j hj,hb] at hs
 rw [show (es.getD j ZC.zero).s=b from hs] at hc
 exact hc
end
set_option maxHeartbeats 8000000 in
set_option maxRecDepth 20000 in
theorem g_ladM_put {w:World}{lb n cc gl gs gr:Nat}{RA:Option Addr}{rcap:Nat}{ra:Nat→Option Addr}{rc:Nat→Nat}{Z:Mx}(hL:Ldr lb n cc gl gs gr RA rcap ra rc w Z) (hlb:lb≤w.heap.size) (hcc:cc≤64){d B:Nat}(hn:n≤64) (hd:d<n) (hz:Ech cc d Z) (hZ:∀i b,i≤d→b<cc→ln (Z i b)≤B) (hF:∀i b,i<pN cc d Z→b<cc→ln (putF Ebz cc d Z i b)≤B) (hB34:B+1≤17179869184) (hK:200*B+400≤68719476736):
    Calls Tryz.prog 67 #[.pointer (some ⟨gl,0,none⟩),.int .i64 ((d:Nat):Int)] w (fun e w'=>e= .returned (.bool (putB Ebz cc d Z))∧Ldr lb n cc gl gs gr RA rcap ra rc w' (putF Ebz cc d Z)∧UpS (LS n gl gs gr RA ra) w w'):=by
 refine sx_enter Tryz.func67 rfl (n:=109) rfl (bq rfl) (args:= [.pointer (some ⟨gl,0,none⟩),.int .i64 ((d:Nat):Int)]) ?_
 have hLS:∀k,LS n gl gs gr RA ra k→k<w.heap.size:=fun k hk=>(hL.lt hk).2
 obtain⟨ps1,Y1,hP1⟩:=(hL).op
 have hcap:=hP1.ho.rv.le
 refine cw_keep [(0,.pointer (some ⟨gl,0,none⟩)),(1,.int .i64 ((d:Nat):Int))] ⟨rfl,rfl,trivial⟩ (sr (mv 1 rfl (ne_ (sr (mv 1 rfl (ne_ (cw_seq (sr (mv 1 rfl (ne_ (cw_block ?_)))))))))))
 refine cw_loop (T:=World×Nat×Int×Nat×Mx) (fun⟨wr,u,lz,a,Y⟩=> [(0,.pointer (some ⟨gl,0,none⟩)),(1,.int .i64 ((d:Nat):Int)),(4,.bool false),(5,.int .i64 ((a:Nat):Int)),(6,.int .i64 lz)]) (fun⟨wr,u,lz,a,Y⟩=>wr) (fun⟨wr,u,lz,a,Y⟩=>(UpS (LS n gl gs gr RA ra) w wr)∧(u≤cc)∧(Ldr lb n cc gl gs gr RA rcap ra rc wr Y)∧(lz=(u:Int)-1)∧(PL cc d B Z u a Y)) (fun⟨wr,u,lz,a,Y⟩=>cc-u)
  (⟨w,0,(-1),0,Z⟩:World×Nat×Int×Nat×Mx) ⟨(UpS.refl (LS n gl gs gr RA ra) w),(by omega),hP1.ldr,(by decide),(PL.start hz hZ)⟩ rfl ⟨rfl,rfl,rfl,rfl,rfl,trivial⟩ ?_
 rintro⟨wr,u,lz,a,Y⟩ ⟨hw1,hi_u,hl_wr,hlz,hpl⟩
 refine cw_re [(0,.pointer (some ⟨gl,0,none⟩)),(1,.int .i64 ((d:Nat):Int)),(4,.bool false),(5,.int .i64 ((a:Nat):Int)),(6,.int .i64 lz)] wr rfl ⟨rfl,rfl,rfl,rfl,rfl,trivial⟩ ?_
 obtain⟨ps2,Y2,hP2⟩:=(hl_wr).op
 refine cw_block (sr (mv 1 rfl (pf gl 0 rfl (by kernel_rfl) (pf gl 0 rfl (by kernel_rfl) (wl_load rfl rfl (load_cell cellRows hP2.bl rfl) (by decide) (mv 1 rfl ?_))))))
 obtain⟨pz3,hpz3,hcz3⟩:=(hP2.ho).rowAt (i:=d) (by omega)
 refine wl_idx rfl rfl rfl unRows szInts d rfl (by omega) pz3 hpz3 (by decide) (wl_load rfl rfl (load_cell1 cellInts hcz3) (by decide) (wl_call rfl rfl (vs:= [.slice (ra (ps2.getD d 0)) cc (rc (ps2.getD d 0))]) (by kernel_rfl) (by decide) (g_ld_Lead hP2 hcc (i:=d) (by omega)) ?_))
 rintro _ v4 ⟨xr6,rfl,r6,e5⟩
 refine ret_intro ?_
 have hw2:UpS (LS n gl gs gr RA ra) w v4:=hw1.ext e5
 obtain rfl:=r6
 refine mv 1 rfl (ne_ (cw_seq (cw_seq ?_)))
 have hlo:=hpl.lo
 have han:=hpl.pi.an
 have hJc:=ldr_le cc (Y d)
 by_cases hjc:ldr cc (Y d)=cc
 · 
  have hput:=hpl.none hjc
  refine cw_region (mv 2 rfl (pf gl 0 rfl (by kernel_rfl) (pf gl 0 rfl (by kernel_rfl) (wl_load rfl rfl (load_cell cellRows (hP2.ext e5).bl rfl) (by decide) (mv 1 rfl (wl_idx rfl rfl rfl unRows szInts d rfl (by omega) pz3 hpz3 (by decide) (wl_load rfl rfl (load_cell1 cellInts (e5.cell hcz3)) (by decide) (pu (v:= .int .i64 ((cc:Nat):Int)) rfl (by kernel_rfl) (wl_cmp rfl rfl rfl true (cb_eq_t (a:=ldr cc (Y d)) (b:=cc) rfl rfl (by omega)) (by decide) (mv 4 rfl (pu (v:= .bool true) rfl (by kernel_rfl) (ne_ (cw_true rfl ?_)))))))))))))
  refine sr (mv 2 rfl (wl_call rfl rfl (vs:= [.pointer (some ⟨gl,0,none⟩),.int .i64 ((d:Nat):Int)]) (by kernel_rfl) (by decide) (g_ladM_settle (hP2.ext e5).ldr (Nat.le_trans hlb hw2.size) hcc hn (m:=d) (by omega) (hpl.sztN hcc hz hF hput) (by omega)) ?_))
  rintro _ v7 ⟨rfl,hl8,us9⟩
  refine ret_intro ?_
  have no10:=(hP2.ext e5).ldr.no64
  have hw3:UpS (LS n gl gs gr RA ra) w v7:=hw2.trans us9
  obtain⟨ps11,Y11,hP11⟩:=(hl8).op
  refine ne_ (sr (mv 1 rfl (ne_ (cw_ret (eo_thenR (eo_block_ret (eo_loopR (eo_block_ret (eo_thenR (eo_ret [F0] rfl ⟨rfl,trivial⟩ ?_))))))))))
  exact⟨by rw [(put_no hput).1];rfl,hP11.ldr.cong (fun a b _ _=>by rw [(put_no hput).2]),hw3⟩
 · 
  have hjl:ldr cc (Y d)<cc:=by omega
  refine cw_region (mv 2 rfl (pf gl 0 rfl (by kernel_rfl) (pf gl 0 rfl (by kernel_rfl) (wl_load rfl rfl (load_cell cellRows (hP2.ext e5).bl rfl) (by decide) (mv 1 rfl (wl_idx rfl rfl rfl unRows szInts d rfl (by omega) pz3 hpz3 (by decide) (wl_load rfl rfl (load_cell1 cellInts (e5.cell hcz3)) (by decide) (pu (v:= .int .i64 ((cc:Nat):Int)) rfl (by kernel_rfl) (wl_cmp rfl rfl rfl false (cb_eq_f (a:=ldr cc (Y d)) (b:=cc) rfl rfl (by omega)) (by decide) (mv 3 rfl (wl_cmp rfl rfl rfl false (ci_le_f (by omega)) (by decide) (pu (v:= .bool false) rfl (by kernel_rfl) (wl_nil ?_)))))))))))))
  refine eo_then (cw_false rfl (cw_skip (eo_then (sr (mv 2 rfl (ne_ (cw_seq (cw_block ?_))))))))
  refine cw_loop (T:=World×Nat) (fun⟨wa,a1⟩=> [(0,.pointer (some ⟨gl,0,none⟩)),(1,.int .i64 ((d:Nat):Int)),(4,.bool false),(5,.int .i64 ((a1:Nat):Int)),(6,.int .i64 ((ldr cc (Y d):Nat):Int)),(7,.int .i64 ((ldr cc (Y d):Nat):Int)),(9,.pointer (some ⟨gl,0,none⟩)),(10,.pointer (some ⟨gl,0,none⟩)),(11,.pointer (some ⟨gl,0,none⟩)),(12,.slice RA n rcap),(13,.int .i64 ((d:Nat):Int)),(14,.pointer (some pz3)),(15,.slice (ra (ps2.getD d 0)) cc (rc (ps2.getD d 0))),(16,.int .i64 ((ldr cc (Y d):Nat):Int)),(17,.int .i64 ((ldr cc (Y d):Nat):Int)),(18,.pointer (some ⟨gl,0,none⟩)),(19,.pointer (some ⟨gl,0,none⟩)),(20,.pointer (some ⟨gl,0,none⟩)),(21,.slice RA n rcap),(22,.int .i64 ((d:Nat):Int)),(23,.pointer (some pz3)),(24,.slice (ra (ps2.getD d 0)) cc (rc (ps2.getD d 0))),(25,.int .i64 ((cc:Nat):Int)),(26,.bool false),(27,.bool false),(28,.int .i64 ((ldr cc (Y d):Nat):Int)),(29,.int .i64 lz),(30,.bool false),(31,.bool false),(35,.int .i64 ((ldr cc (Y d):Nat):Int))]) (fun⟨wa,a1⟩=>wa) (fun⟨wa,a1⟩=>(UpS (LS n gl gs gr RA ra) w wa)∧(a1≤d)∧(Ldr lb n cc gl gs gr RA rcap ra rc wa Y)∧(a≤a1)∧(∀r,a≤r→r<a1→ldr cc (Y r)<ldr cc (Y d))) (fun⟨wa,a1⟩=>d-a1)
   (⟨v4,a⟩:World×Nat) ⟨hw2,(by omega),(hP2.ext e5).ldr,(Nat.le_refl a),(fun r h1 h2=>by omega)⟩ rfl ⟨rfl,rfl,rfl,rfl,rfl,rfl,rfl,rfl,rfl,rfl,rfl,rfl,rfl,rfl,rfl,rfl,rfl,rfl,rfl,rfl,rfl,rfl,rfl,rfl,rfl,rfl,rfl,rfl,rfl,rfl,trivial⟩ ?_
  rintro⟨wa,a1⟩ ⟨hw1,hi_a1,hl_wa,haa,had⟩
  refine cw_re [(0,.pointer (some ⟨gl,0,none⟩)),(1,.int .i64 ((d:Nat):Int)),(4,.bool false),(5,.int .i64 ((a1:Nat):Int)),(6,.int .i64 ((ldr cc (Y d):Nat):Int)),(7,.int .i64 ((ldr cc (Y d):Nat):Int)),(9,.pointer (some ⟨gl,0,none⟩)),(10,.pointer (some ⟨gl,0,none⟩)),(11,.pointer (some ⟨gl,0,none⟩)),(12,.slice RA n rcap),(13,.int .i64 ((d:Nat):Int)),(14,.pointer (some pz3)),(15,.slice (ra (ps2.getD d 0)) cc (rc (ps2.getD d 0))),(16,.int .i64 ((ldr cc (Y d):Nat):Int)),(17,.int .i64 ((ldr cc (Y d):Nat):Int)),(18,.pointer (some ⟨gl,0,none⟩)),(19,.pointer (some ⟨gl,0,none⟩)),(20,.pointer (some ⟨gl,0,none⟩)),(21,.slice RA n rcap),(22,.int .i64 ((d:Nat):Int)),(23,.pointer (some pz3)),(24,.slice (ra (ps2.getD d 0)) cc (rc (ps2.getD d 0))),(25,.int .i64 ((cc:Nat):Int)),(26,.bool false),(27,.bool false),(28,.int .i64 ((ldr cc (Y d):Nat):Int)),(29,.int .i64 lz),(30,.bool false),(31,.bool false),(35,.int .i64 ((ldr cc (Y d):Nat):Int))] wa rfl ⟨rfl,rfl,rfl,rfl,rfl,rfl,rfl,rfl,rfl,rfl,rfl,rfl,rfl,rfl,rfl,rfl,rfl,rfl,rfl,rfl,rfl,rfl,rfl,rfl,rfl,rfl,rfl,rfl,rfl,rfl,trivial⟩ ?_
  obtain⟨ps12,Y12,hP12⟩:=(hl_wa).op
  refine cw_seq (cw_seq ?_)
  by_cases hai:a1<d
  · 
   by_cases hlt:ldr cc (Y a1)<ldr cc (Y d)
   · 
    refine cw_region (mv 2 rfl (wl_cmp rfl rfl rfl true (cb_lt_t (a:=a1) (b:=d) rfl rfl (by omega)) (by decide) (mv 2 rfl (pf gl 0 rfl (by kernel_rfl) (pf gl 0 rfl (by kernel_rfl) (wl_load rfl rfl (load_cell cellRows hP12.bl rfl) (by decide) (mv 1 rfl ?_)))))))
    obtain⟨pz13,hpz13,hcz13⟩:=(hP12.ho).rowAt (i:=a1) (by omega)
    refine wl_idx rfl rfl rfl unRows szInts a1 rfl (by omega) pz13 hpz13 (by decide) (wl_load rfl rfl (load_cell1 cellInts hcz13) (by decide) (wl_call rfl rfl (vs:= [.slice (ra (ps12.getD a1 0)) cc (rc (ps12.getD a1 0))]) (by kernel_rfl) (by decide) (g_ld_Lead hP12 hcc (i:=a1) (by omega)) ?_))
    rintro _ v14 ⟨xr16,rfl,r16,e15⟩
    refine ret_intro ?_
    have hw2:UpS (LS n gl gs gr RA ra) w v14:=hw1.ext e15
    obtain rfl:=r16
    refine mv 1 rfl (wl_cmp rfl rfl rfl true (cb_lt_t (a:=ldr cc (Y a1)) (b:=ldr cc (Y d)) rfl rfl (by omega)) (by decide) (pu (v:= .bool true) rfl (by kernel_rfl) (ne_ (cw_true rfl (cw_skip (eo_then (cw_block (cw_region (mv 1 rfl (wl_ar rfl rfl rfl ((a1+1:Nat):Int) (ai_add (a:=a1) (b:=1) rfl rfl (by omega)) (by decide) (mv 1 rfl (wl_nil (eo_block_normal ?_)))))))))))))
    refine eo_round (⟨v14,a1+1⟩:World×Nat) ⟨hw2,(by omega),(hP12.ext e15).ldr,(by omega),(fun r h1 h2=>if h9:r<a1 then had r h1 h9 else (show r=a1 by omega)▸hlt)⟩ (show d-(a1+1)<d-a1 by omega) rfl ⟨rfl,rfl,rfl,rfl,rfl,rfl,rfl,rfl,rfl,rfl,rfl,rfl,rfl,rfl,rfl,rfl,rfl,rfl,rfl,rfl,rfl,rfl,rfl,rfl,rfl,rfl,rfl,rfl,rfl,rfl,trivial⟩
   · 
    refine cw_region (mv 2 rfl (wl_cmp rfl rfl rfl true (cb_lt_t (a:=a1) (b:=d) rfl rfl (by omega)) (by decide) (mv 2 rfl (pf gl 0 rfl (by kernel_rfl) (pf gl 0 rfl (by kernel_rfl) (wl_load rfl rfl (load_cell cellRows hP12.bl rfl) (by decide) (mv 1 rfl ?_)))))))
    obtain⟨pz17,hpz17,hcz17⟩:=(hP12.ho).rowAt (i:=a1) (by omega)
    refine wl_idx rfl rfl rfl unRows szInts a1 rfl (by omega) pz17 hpz17 (by decide) (wl_load rfl rfl (load_cell1 cellInts hcz17) (by decide) (wl_call rfl rfl (vs:= [.slice (ra (ps12.getD a1 0)) cc (rc (ps12.getD a1 0))]) (by kernel_rfl) (by decide) (g_ld_Lead hP12 hcc (i:=a1) (by omega)) ?_))
    rintro _ v18 ⟨xr20,rfl,r20,e19⟩
    refine ret_intro ?_
    have hw2:UpS (LS n gl gs gr RA ra) w v18:=hw1.ext e19
    obtain rfl:=r20
    refine mv 1 rfl (wl_cmp rfl rfl rfl false (cb_lt_f (a:=ldr cc (Y a1)) (b:=ldr cc (Y d)) rfl rfl (by omega)) (by decide) (pu (v:= .bool false) rfl (by kernel_rfl) (ne_ (cw_false rfl (cw_exit (eo_thenX (eo_loopX (eo_block_here (eo_then (cw_seq (cw_seq ?_)))))))))))
    have hadv:adv cc (Y) (ldr cc (Y d)) (d-a) a=a1:=adv_eq haa hi_a1 had (fun _=>by omega)
    by_cases heq:ldr cc (Y a1)=ldr cc (Y d)
    · 
     refine cw_region (mv 2 rfl (wl_cmp rfl rfl rfl false (cb_eq_f (a:=a1) (b:=d) rfl rfl (by omega)) (by decide) (mv 2 rfl (pf gl 0 rfl (by kernel_rfl) (pf gl 0 rfl (by kernel_rfl) (wl_load rfl rfl (load_cell cellRows (hP12.ext e19).bl rfl) (by decide) (mv 1 rfl (wl_idx rfl rfl rfl unRows szInts a1 rfl (by omega) pz17 hpz17 (by decide) (wl_load rfl rfl (load_cell1 cellInts (e19.cell hcz17)) (by decide) (wl_call rfl rfl (vs:= [.slice (ra (ps12.getD a1 0)) cc (rc (ps12.getD a1 0))]) (by kernel_rfl) (by decide) (g_ld_Lead (hP12.ext e19) hcc (i:=a1) (by omega)) ?_))))))))))
     rintro _ v21 ⟨xr23,rfl,r23,e22⟩
     refine ret_intro ?_
     have hw3:UpS (LS n gl gs gr RA ra) w v21:=hw2.ext e22
     obtain rfl:=r23
     refine mv 1 rfl (wl_cmp rfl rfl rfl false (cb_ne_f (a:=ldr cc (Y a1)) (b:=ldr cc (Y d)) rfl rfl (by omega)) (by decide) (pu (v:= .bool false) rfl (by kernel_rfl) (ne_ (cw_false rfl (cw_skip (eo_then ?_))))))
     have hszm:=hpl.szm hZ hjl hadv hai heq
     have hu64:B+u*(2*B+4)+2*B+4≤68719476736:=by have h9:=Nat.mul_le_mul_right (2*B+4) (show u+1≤64 by omega);rw [Nat.succ_mul] at h9;omega
     refine cw_region (mv 4 rfl (wl_call rfl rfl (vs:= [.pointer (some ⟨gl,0,none⟩),.int .i64 ((a1:Nat):Int),.int .i64 ((d:Nat):Int),.int .i64 ((ldr cc (Y d):Nat):Int)]) (by kernel_rfl) (by decide) (g_ladM_meet (hP12.ext (e19.trans e22)).ldr (Nat.le_trans hlb hw3.size) hcc (k:=a1) (q:=d) (j:=ldr cc (Y d)) (by omega) (by omega) hszm hu64 hB34) ?_))
     rintro _ v24 ⟨rfl,hl25,us26⟩
     refine ret_intro ?_
     have no27:=(hP12.ext (e19.trans e22)).ldr.no64
     have hw4:UpS (LS n gl gs gr RA ra) w v24:=hw3.trans us26
     obtain⟨ps28,Y28,hP28⟩:=(hl25).op
     refine wl_nil (eo_block_normal (eo_round (⟨v24,ldr cc (Y d)+1,((ldr cc (Y d):Nat):Int),a1,meetF Ebz a1 d (ldr cc (Y d)) Y⟩:World×Nat×Int×Nat×Mx) ⟨hw4,(by omega),hP28.ldr,(by omega),(hpl.met hZ hjl hadv hai heq)⟩ (show cc-(ldr cc (Y d)+1)<cc-u by omega) rfl ⟨rfl,rfl,rfl,rfl,rfl,trivial⟩))
    · 
     have hbk:=hpl.brk hjl hadv (Or.inr heq)
     refine cw_region (mv 2 rfl (wl_cmp rfl rfl rfl false (cb_eq_f (a:=a1) (b:=d) rfl rfl (by omega)) (by decide) (mv 2 rfl (pf gl 0 rfl (by kernel_rfl) (pf gl 0 rfl (by kernel_rfl) (wl_load rfl rfl (load_cell cellRows (hP12.ext e19).bl rfl) (by decide) (mv 1 rfl (wl_idx rfl rfl rfl unRows szInts a1 rfl (by omega) pz17 hpz17 (by decide) (wl_load rfl rfl (load_cell1 cellInts (e19.cell hcz17)) (by decide) (wl_call rfl rfl (vs:= [.slice (ra (ps12.getD a1 0)) cc (rc (ps12.getD a1 0))]) (by kernel_rfl) (by decide) (g_ld_Lead (hP12.ext e19) hcc (i:=a1) (by omega)) ?_))))))))))
     rintro _ v29 ⟨xr31,rfl,r31,e30⟩
     refine ret_intro ?_
     have hw3:UpS (LS n gl gs gr RA ra) w v29:=hw2.ext e30
     obtain rfl:=r31
     refine mv 1 rfl (wl_cmp rfl rfl rfl true (cb_ne_t (a:=ldr cc (Y a1)) (b:=ldr cc (Y d)) rfl rfl (by omega)) (by decide) (pu (v:= .bool true) rfl (by kernel_rfl) (ne_ (cw_true rfl (cw_exit (eo_thenX (eo_block_far (by decide) (eo_loopX (eo_block_here (eo_then (cw_seq (cw_seq ?_))))))))))))
     by_cases hng:Y d (ldr cc (Y d))<0
     · 
      have hnd:decide (Y d (ldr cc (Y d))<0)=true:=decide_eq_true hng
      obtain⟨pz32,hpz32,hcz32⟩:=((hP12.ext (e19.trans e30)).ho).rowAt (i:=d) (by omega)
      obtain⟨pz33,sz33,Bz33,nz33,cz33,hpz33,ldz33,hKz33,zz33⟩:=((hP12.ext (e19.trans e30)).hc).at (hP12.per.lt d (by omega)) (show ldr cc (Y d)<cc by omega)
      have zz33:=zz33.cast (hP12.ent d (ldr cc (Y d)) (by omega) (by omega)).symm
      refine cw_draw mix 18 [] [Is (.pointer (some ⟨gl,0,none⟩)),Is (.pointer (some ⟨gl,0,none⟩)),Is (.pointer (some ⟨gl,0,none⟩)),Is (.slice RA n rcap),Is (.int .i64 ((d:Nat):Int)),Is (.pointer (some pz32)),Is (.slice (ra (ps12.getD d 0)) cc (rc (ps12.getD d 0))),Is (.pointer (some ⟨gl,0,none⟩)),Is (.pointer (some ⟨gl,0,none⟩)),Is (.pointer (some ⟨gl,0,none⟩)),Is (.slice RA n rcap),Is (.int .i64 ((d:Nat):Int)),Is (.pointer (some pz32)),Is (.slice (ra (ps12.getD d 0)) cc (rc (ps12.getD d 0))),Is (.int .i64 ((ldr cc (Y d):Nat):Int)),Is (.pointer (some pz33)),Is (.pointer (some (pz33.add 0))),Is (.bool true)] [[],[0],[1],[2],[],[3,4],[5],[],[7],[8],[9],[],[10,11],[12],[13],[6,14],[15],[16]] [[],[0],[0,1],[0,1,2],[],[0,1,2,3,4],[0,1,2,3,4,5],[],[7],[7,8],[7,8,9],[],[7,8,9,10,11],[7,8,9,10,11,12],[7,8,9,10,11,12,13],[0,1,2,3,4,5,6,7,8,9,10,11,12,13,14],[0,1,2,3,4,5,6,7,8,9,10,11,12,13,14,15],[0,1,2,3,4,5,6,7,8,9,10,11,12,13,14,15,16]] rfl
       (obs_cons rfl rfl (hob rfl rfl ?_) (obs_cons rfl rfl (hob rfl rfl ?_) (obs_cons rfl rfl (hob rfl rfl ?_) (obs_cons rfl rfl (hob rfl rfl ?_) (obs_cons rfl rfl (hob rfl rfl ?_) (obs_cons rfl rfl (hob rfl rfl ?_) (obs_cons rfl rfl (hob rfl rfl ?_) (obs_cons rfl rfl (hob rfl rfl ?_) (obs_cons rfl rfl (hob rfl rfl ?_) (obs_cons rfl rfl (hob rfl rfl ?_) (obs_cons rfl rfl (hob rfl rfl ?_) (obs_cons rfl rfl (hob rfl rfl ?_) (obs_cons rfl rfl (hob rfl rfl ?_) (obs_cons rfl rfl (hob rfl rfl ?_) (obs_cons rfl rfl (hob rfl rfl ?_) (obs_cons rfl rfl (hob rfl rfl ?_) (obs_cons rfl rfl (hob rfl rfl ?_) (obs_cons rfl rfl (hob rfl rfl ?_) obs_nil)))))))))))))))))) ?_
      · 
       intro v34 e35
       have hw4:UpS (LS n gl gs gr RA ra) w v34:=hw3.ext e35
       refine deps_nil (mv 1 rfl ?_)
       exact pi_done rfl (Ext.refl _) rfl
      · 
       intro v36 e37
       have hw4:UpS (LS n gl gs gr RA ra) w v36:=hw3.ext e37
       refine dk rfl rfl (deps_nil (pf gl 0 rfl (by kernel_rfl) ?_))
       exact pi_done rfl (Ext.refl _) rfl
      · 
       intro v43 e44
       have hw4:UpS (LS n gl gs gr RA ra) w v43:=hw3.ext e44
       refine dk rfl rfl (deps_nil (pf gl 0 rfl (by kernel_rfl) ?_))
       exact pi_done rfl (Ext.refl _) rfl
      · 
       intro v50 e51
       have hw4:UpS (LS n gl gs gr RA ra) w v50:=hw3.ext e51
       refine dk rfl rfl (deps_nil (wl_load rfl rfl (load_cell cellRows (hP12.ext (e19.trans (e30.trans e51))).bl rfl) (by decide) ?_))
       exact pi_done rfl (Ext.refl _) rfl
      · 
       intro v57 e58
       have hw4:UpS (LS n gl gs gr RA ra) w v57:=hw3.ext e58
       refine deps_nil (mv 1 rfl ?_)
       exact pi_done rfl (Ext.refl _) rfl
      · 
       intro v59 e60
       have hw4:UpS (LS n gl gs gr RA ra) w v59:=hw3.ext e60
       refine dk rfl rfl (dk rfl rfl (deps_nil (wl_idx rfl rfl rfl unRows szInts d rfl (by omega) pz32 hpz32 (by decide) ?_)))
       exact pi_done rfl (Ext.refl _) rfl
      · 
       intro v71 e72
       have hw4:UpS (LS n gl gs gr RA ra) w v71:=hw3.ext e72
       refine dk rfl rfl (deps_nil (wl_load rfl rfl (load_cell1 cellInts (e72.cell hcz32)) (by decide) ?_))
       exact pi_done rfl (Ext.refl _) rfl
      · 
       intro v78 e79
       have hw4:UpS (LS n gl gs gr RA ra) w v78:=hw3.ext e79
       refine deps_nil (mv 1 rfl ?_)
       exact pi_done rfl (Ext.refl _) rfl
      · 
       intro v80 e81
       have hw4:UpS (LS n gl gs gr RA ra) w v80:=hw3.ext e81
       refine dk rfl rfl (deps_nil (pf gl 0 rfl (by kernel_rfl) ?_))
       exact pi_done rfl (Ext.refl _) rfl
      · 
       intro v87 e88
       have hw4:UpS (LS n gl gs gr RA ra) w v87:=hw3.ext e88
       refine dk rfl rfl (deps_nil (pf gl 0 rfl (by kernel_rfl) ?_))
       exact pi_done rfl (Ext.refl _) rfl
      · 
       intro v94 e95
       have hw4:UpS (LS n gl gs gr RA ra) w v94:=hw3.ext e95
       refine dk rfl rfl (deps_nil (wl_load rfl rfl (load_cell cellRows (hP12.ext (e19.trans (e30.trans e95))).bl rfl) (by decide) ?_))
       exact pi_done rfl (Ext.refl _) rfl
      · 
       intro v101 e102
       have hw4:UpS (LS n gl gs gr RA ra) w v101:=hw3.ext e102
       refine deps_nil (mv 1 rfl ?_)
       exact pi_done rfl (Ext.refl _) rfl
      · 
       intro v103 e104
       have hw4:UpS (LS n gl gs gr RA ra) w v103:=hw3.ext e104
       refine dk rfl rfl (dk rfl rfl (deps_nil (wl_idx rfl rfl rfl unRows szInts d rfl (by omega) pz32 hpz32 (by decide) ?_)))
       exact pi_done rfl (Ext.refl _) rfl
      · 
       intro v115 e116
       have hw4:UpS (LS n gl gs gr RA ra) w v115:=hw3.ext e116
       refine dk rfl rfl (deps_nil (wl_load rfl rfl (load_cell1 cellInts (e116.cell hcz32)) (by decide) ?_))
       exact pi_done rfl (Ext.refl _) rfl
      · 
       intro v122 e123
       have hw4:UpS (LS n gl gs gr RA ra) w v122:=hw3.ext e123
       refine dk rfl rfl (deps_nil (wl_call rfl rfl (vs:= [.slice (ra (ps12.getD d 0)) cc (rc (ps12.getD d 0))]) (by kernel_rfl) (by decide) (g_ld_Lead (hP12.ext (e19.trans (e30.trans e123))) hcc (i:=d) (by omega)) ?_))
       rintro _ v129 ⟨xr131,rfl,r131,e130⟩
       refine ret_intro ?_
       have hw5:UpS (LS n gl gs gr RA ra) w v129:=hw4.ext e130
       obtain rfl:=r131
       exact pi_done rfl e130 rfl
      · 
       intro v132 e133
       have hw4:UpS (LS n gl gs gr RA ra) w v132:=hw3.ext e133
       refine dk rfl rfl (dk rfl rfl (deps_nil (wl_idx rfl rfl rfl elemI aggInt.size (ldr cc (Y d)) rfl (by omega) pz33 hpz33 (by decide) ?_)))
       exact pi_done rfl (Ext.refl _) rfl
      · 
       intro v144 e145
       have hw4:UpS (LS n gl gs gr RA ra) w v144:=hw3.ext e145
       refine dk rfl rfl (deps_nil (pu (v:= .pointer (some (pz33.add 0))) rfl (by kernel_rfl) ?_))
       exact pi_done rfl (Ext.refl _) rfl
      · 
       intro v151 e152
       have hw4:UpS (LS n gl gs gr RA ra) w v151:=hw3.ext e152
       refine dk rfl rfl (deps_nil (wl_load rfl rfl (load_cell1 cellBool ((hP12.ext (e19.trans (e30.trans e152))).neg (i:=d) (j:=(ldr cc (Y d))) (by omega) (by omega) hpz33 hnd)) (by decide) ?_))
       exact pi_done rfl (Ext.refl _) rfl
      · 
       intro v158 e159
       have hw4:UpS (LS n gl gs gr RA ra) w v158:=hw3.ext e159
       refine dk rfl rfl (dk rfl rfl (dk rfl rfl (dk rfl rfl (dk rfl rfl (dk rfl rfl (dk rfl rfl (dk rfl rfl (dk rfl rfl (dk rfl rfl (dk rfl rfl (dk rfl rfl (dk rfl rfl (dk rfl rfl ?_)))))))))))))
       refine dk rfl rfl (dk rfl rfl (dk rfl rfl (dk rfl rfl (deps_nil (wl_nil (eo_np (eo_then (cw_true rfl (cw_region (mv 2 rfl (wl_call rfl rfl (vs:= [.pointer (some ⟨gl,0,none⟩),.int .i64 ((d:Nat):Int)]) (by kernel_rfl) (by decide) (g_ladM_turn (hP12.ext (e19.trans (e30.trans e159))).ldr (Nat.le_trans hlb hw4.size) hcc (i:=d) (by omega)) ?_)))))))))))
       rintro _ v250 ⟨rfl,hl251,us252⟩
       refine ret_intro ?_
       have no253:=(hP12.ext (e19.trans (e30.trans e159))).ldr.no64
       have hw5:UpS (LS n gl gs gr RA ra) w v250:=hw4.trans us252
       obtain⟨ps254,Y254,hP254⟩:=(hl251).op
       refine ne_ (cw_seq (cw_seq ?_))
       have hR0:=hP254.ldr.cong (Y:=sgnR cc d Y) fun a b _ _=>by rw [sgnR_y hng]
       obtain⟨ps255,Y255,hP255⟩:=(hR0).op
       refine cw_region (mv 2 rfl (ne_ (cw_block ?_)))
       have hS0:=hP255.ldr.cong (Y:=mvU d (d-0) (sgnR cc d Y)) fun a b _ _=>mvU_self a b
       obtain⟨ps256,Y256,hP256⟩:=(hS0).op
       refine cw_loop (T:=World×Nat) (fun⟨ws,s⟩=> [(0,.pointer (some ⟨gl,0,none⟩)),(1,.int .i64 ((d:Nat):Int)),(4,.bool false),(5,.int .i64 ((a1:Nat):Int)),(6,.int .i64 ((ldr cc (Y d):Nat):Int)),(7,.int .i64 ((ldr cc (Y d):Nat):Int)),(8,.int .i64 ((d-s:Nat):Int)),(9,.pointer (some ⟨gl,0,none⟩)),(10,.pointer (some ⟨gl,0,none⟩)),(11,.pointer (some ⟨gl,0,none⟩)),(12,.slice RA n rcap),(13,.int .i64 ((d:Nat):Int)),(14,.pointer (some pz3)),(15,.slice (ra (ps2.getD d 0)) cc (rc (ps2.getD d 0))),(16,.int .i64 ((ldr cc (Y d):Nat):Int)),(17,.int .i64 ((ldr cc (Y d):Nat):Int)),(18,.pointer (some ⟨gl,0,none⟩)),(19,.pointer (some ⟨gl,0,none⟩)),(20,.pointer (some ⟨gl,0,none⟩)),(21,.slice RA n rcap),(22,.int .i64 ((d:Nat):Int)),(23,.pointer (some pz3)),(24,.slice (ra (ps2.getD d 0)) cc (rc (ps2.getD d 0))),(25,.int .i64 ((cc:Nat):Int)),(26,.bool false),(27,.bool false),(28,.int .i64 ((ldr cc (Y d):Nat):Int)),(29,.int .i64 lz),(30,.bool false),(31,.bool false),(35,.int .i64 ((ldr cc (Y d):Nat):Int)),(36,.int .i64 ((a1:Nat):Int)),(37,.int .i64 ((d:Nat):Int)),(38,.bool true),(39,.bool true),(40,.pointer (some ⟨gl,0,none⟩)),(41,.pointer (some ⟨gl,0,none⟩)),(42,.pointer (some ⟨gl,0,none⟩)),(43,.slice RA n rcap),(44,.int .i64 ((a1:Nat):Int)),(45,.pointer (some pz17)),(46,.slice (ra (ps12.getD a1 0)) cc (rc (ps12.getD a1 0))),(47,.int .i64 ((ldr cc (Y a1):Nat):Int)),(48,.int .i64 ((ldr cc (Y d):Nat):Int)),(49,.bool false),(50,.bool false),(53,.int .i64 ((a1:Nat):Int)),(54,.int .i64 ((d:Nat):Int)),(55,.bool false),(56,.bool false),(57,.pointer (some ⟨gl,0,none⟩)),(58,.pointer (some ⟨gl,0,none⟩)),(59,.pointer (some ⟨gl,0,none⟩)),(60,.slice RA n rcap),(61,.int .i64 ((a1:Nat):Int)),(62,.pointer (some pz17)),(63,.slice (ra (ps12.getD a1 0)) cc (rc (ps12.getD a1 0))),(64,.int .i64 ((ldr cc (Y a1):Nat):Int)),(65,.int .i64 ((ldr cc (Y d):Nat):Int)),(66,.bool true),(67,.bool true),(73,.pointer (some ⟨gl,0,none⟩)),(74,.pointer (some ⟨gl,0,none⟩)),(75,.pointer (some ⟨gl,0,none⟩)),(76,.slice RA n rcap),(77,.int .i64 ((d:Nat):Int)),(78,.pointer (some pz32)),(79,.slice (ra (ps12.getD d 0)) cc (rc (ps12.getD d 0))),(80,.pointer (some ⟨gl,0,none⟩)),(81,.pointer (some ⟨gl,0,none⟩)),(82,.pointer (some ⟨gl,0,none⟩)),(83,.slice RA n rcap),(84,.int .i64 ((d:Nat):Int)),(85,.pointer (some pz32)),(86,.slice (ra (ps12.getD d 0)) cc (rc (ps12.getD d 0))),(87,.int .i64 ((ldr cc (Y d):Nat):Int)),(88,.pointer (some pz33)),(89,.pointer (some (pz33.add 0))),(90,.bool true),(91,.pointer (some ⟨gl,0,none⟩)),(92,.int .i64 ((d:Nat):Int)),(94,.int .i64 ((d:Nat):Int))]) (fun⟨ws,s⟩=>ws) (fun⟨ws,s⟩=>(UpS (LS n gl gs gr RA ra) w ws)∧(s≤d-a1)∧(Ldr lb n cc gl gs gr RA rcap ra rc ws (mvU d (d-s) (sgnR cc d Y)))) (fun⟨ws,s⟩=>(d-a1)-s)
        (⟨v250,0⟩:World×Nat) ⟨hw5,(by omega),hP256.ldr⟩ rfl ⟨rfl,rfl,rfl,rfl,rfl,rfl,rfl,rfl,rfl,rfl,rfl,rfl,rfl,rfl,rfl,rfl,rfl,rfl,rfl,rfl,rfl,rfl,rfl,rfl,rfl,rfl,rfl,rfl,rfl,rfl,rfl,rfl,rfl,rfl,rfl,rfl,rfl,rfl,rfl,rfl,rfl,rfl,rfl,rfl,rfl,rfl,rfl,rfl,rfl,rfl,rfl,rfl,rfl,rfl,rfl,rfl,rfl,rfl,rfl,rfl,rfl,rfl,rfl,rfl,rfl,rfl,rfl,rfl,rfl,rfl,rfl,rfl,rfl,rfl,rfl,rfl,rfl,rfl,rfl,rfl,rfl,rfl,trivial⟩ ?_
       rintro⟨ws,s⟩ ⟨hw1,hi_s,hl_ws⟩
       refine cw_re [(0,.pointer (some ⟨gl,0,none⟩)),(1,.int .i64 ((d:Nat):Int)),(4,.bool false),(5,.int .i64 ((a1:Nat):Int)),(6,.int .i64 ((ldr cc (Y d):Nat):Int)),(7,.int .i64 ((ldr cc (Y d):Nat):Int)),(8,.int .i64 ((d-s:Nat):Int)),(9,.pointer (some ⟨gl,0,none⟩)),(10,.pointer (some ⟨gl,0,none⟩)),(11,.pointer (some ⟨gl,0,none⟩)),(12,.slice RA n rcap),(13,.int .i64 ((d:Nat):Int)),(14,.pointer (some pz3)),(15,.slice (ra (ps2.getD d 0)) cc (rc (ps2.getD d 0))),(16,.int .i64 ((ldr cc (Y d):Nat):Int)),(17,.int .i64 ((ldr cc (Y d):Nat):Int)),(18,.pointer (some ⟨gl,0,none⟩)),(19,.pointer (some ⟨gl,0,none⟩)),(20,.pointer (some ⟨gl,0,none⟩)),(21,.slice RA n rcap),(22,.int .i64 ((d:Nat):Int)),(23,.pointer (some pz3)),(24,.slice (ra (ps2.getD d 0)) cc (rc (ps2.getD d 0))),(25,.int .i64 ((cc:Nat):Int)),(26,.bool false),(27,.bool false),(28,.int .i64 ((ldr cc (Y d):Nat):Int)),(29,.int .i64 lz),(30,.bool false),(31,.bool false),(35,.int .i64 ((ldr cc (Y d):Nat):Int)),(36,.int .i64 ((a1:Nat):Int)),(37,.int .i64 ((d:Nat):Int)),(38,.bool true),(39,.bool true),(40,.pointer (some ⟨gl,0,none⟩)),(41,.pointer (some ⟨gl,0,none⟩)),(42,.pointer (some ⟨gl,0,none⟩)),(43,.slice RA n rcap),(44,.int .i64 ((a1:Nat):Int)),(45,.pointer (some pz17)),(46,.slice (ra (ps12.getD a1 0)) cc (rc (ps12.getD a1 0))),(47,.int .i64 ((ldr cc (Y a1):Nat):Int)),(48,.int .i64 ((ldr cc (Y d):Nat):Int)),(49,.bool false),(50,.bool false),(53,.int .i64 ((a1:Nat):Int)),(54,.int .i64 ((d:Nat):Int)),(55,.bool false),(56,.bool false),(57,.pointer (some ⟨gl,0,none⟩)),(58,.pointer (some ⟨gl,0,none⟩)),(59,.pointer (some ⟨gl,0,none⟩)),(60,.slice RA n rcap),(61,.int .i64 ((a1:Nat):Int)),(62,.pointer (some pz17)),(63,.slice (ra (ps12.getD a1 0)) cc (rc (ps12.getD a1 0))),(64,.int .i64 ((ldr cc (Y a1):Nat):Int)),(65,.int .i64 ((ldr cc (Y d):Nat):Int)),(66,.bool true),(67,.bool true),(73,.pointer (some ⟨gl,0,none⟩)),(74,.pointer (some ⟨gl,0,none⟩)),(75,.pointer (some ⟨gl,0,none⟩)),(76,.slice RA n rcap),(77,.int .i64 ((d:Nat):Int)),(78,.pointer (some pz32)),(79,.slice (ra (ps12.getD d 0)) cc (rc (ps12.getD d 0))),(80,.pointer (some ⟨gl,0,none⟩)),(81,.pointer (some ⟨gl,0,none⟩)),(82,.pointer (some ⟨gl,0,none⟩)),(83,.slice RA n rcap),(84,.int .i64 ((d:Nat):Int)),(85,.pointer (some pz32)),(86,.slice (ra (ps12.getD d 0)) cc (rc (ps12.getD d 0))),(87,.int .i64 ((ldr cc (Y d):Nat):Int)),(88,.pointer (some pz33)),(89,.pointer (some (pz33.add 0))),(90,.bool true),(91,.pointer (some ⟨gl,0,none⟩)),(92,.int .i64 ((d:Nat):Int)),(94,.int .i64 ((d:Nat):Int))] ws rfl ⟨rfl,rfl,rfl,rfl,rfl,rfl,rfl,rfl,rfl,rfl,rfl,rfl,rfl,rfl,rfl,rfl,rfl,rfl,rfl,rfl,rfl,rfl,rfl,rfl,rfl,rfl,rfl,rfl,rfl,rfl,rfl,rfl,rfl,rfl,rfl,rfl,rfl,rfl,rfl,rfl,rfl,rfl,rfl,rfl,rfl,rfl,rfl,rfl,rfl,rfl,rfl,rfl,rfl,rfl,rfl,rfl,rfl,rfl,rfl,rfl,rfl,rfl,rfl,rfl,rfl,rfl,rfl,rfl,rfl,rfl,rfl,rfl,rfl,rfl,rfl,rfl,rfl,rfl,rfl,rfl,rfl,rfl,trivial⟩ ?_
       obtain⟨ps257,Y257,hP257⟩:=(hl_ws).op
       refine cw_seq (cw_seq ?_)
       by_cases hsd:s<d-a1
       · 
        refine cw_region (mv 2 rfl (wl_cmp rfl rfl rfl true (cb_gt_t (a:=d-s) (b:=a1) rfl rfl (by omega)) (by decide) (ne_ (cw_true rfl (cw_skip (eo_then (cw_seq (cw_block (cw_region (mv 3 rfl (wl_ar rfl rfl rfl (((d-s)-1:Nat):Int) (ai_sub (a:=d-s) (b:=1) rfl rfl (by omega) (by omega)) (by decide) (wl_call rfl rfl (vs:= [.pointer (some ⟨gl,0,none⟩),.int .i64 ((d-s:Nat):Int),.int .i64 (((d-s)-1:Nat):Int)]) (by kernel_rfl) (by decide) (g_ladM_swap hP257.ldr (Nat.le_trans hlb hw1.size) hcc (i:=d-s) (j:=d-s-1) (by omega) (by omega)) ?_))))))))))))
        rintro _ v258 ⟨rfl,hl259,us260⟩
        refine ret_intro ?_
        have no261:=hP257.ldr.no64
        have hw2:UpS (LS n gl gs gr RA ra) w v258:=hw1.trans us260
        obtain⟨ps262,Y262,hP262⟩:=(hl259).op
        refine wl_nil (eo_block_normal (eo_then (cw_region (mv 1 rfl (wl_ar rfl rfl rfl (((d-s)-1:Nat):Int) (ai_sub (a:=d-s) (b:=1) rfl rfl (by omega) (by omega)) (by decide) (mv 1 rfl (wl_nil (eo_round (⟨v258,s+1⟩:World×Nat) ⟨hw2,(by omega),(hP262.ldr.cong fun a b _ _=>(mvU_next (by omega) a b))⟩ (show (d-a1)-(s+1)<(d-a1)-s by omega) rfl ⟨rfl,rfl,rfl,rfl,rfl,rfl,rfl,rfl,rfl,rfl,rfl,rfl,rfl,rfl,rfl,rfl,rfl,rfl,rfl,rfl,rfl,rfl,rfl,rfl,rfl,rfl,rfl,rfl,rfl,rfl,rfl,rfl,rfl,rfl,rfl,rfl,rfl,rfl,rfl,rfl,rfl,rfl,rfl,rfl,rfl,rfl,rfl,rfl,rfl,rfl,rfl,rfl,rfl,rfl,rfl,rfl,rfl,rfl,rfl,rfl,rfl,rfl,rfl,rfl,rfl,rfl,rfl,rfl,rfl,rfl,rfl,rfl,rfl,rfl,rfl,rfl,rfl,rfl,rfl,rfl,rfl,rfl,trivial⟩))))))))
       · 
        refine cw_region (mv 2 rfl (wl_cmp rfl rfl rfl false (cb_gt_f (a:=d-s) (b:=a1) rfl rfl (by omega)) (by decide) (ne_ (cw_false rfl (cw_exit (eo_thenX (eo_loopX (eo_block_here (eo_then (cw_seq ?_))))))))))
        have hT0:=hP257.ldr.cong (Y:=mvU d a1 (sgnR cc d Y)) fun a b _ _=>by rw [show d-s=a1 by omega]
        obtain⟨ps263,Y263,hP263⟩:=(hT0).op
        refine cw_region (mv 2 rfl (wl_ar rfl rfl rfl ((d+1:Nat):Int) (ai_add (a:=d) (b:=1) rfl rfl (by omega)) (by decide) (wl_call rfl rfl (vs:= [.pointer (some ⟨gl,0,none⟩),.int .i64 ((d+1:Nat):Int)]) (by kernel_rfl) (by decide) (g_ladM_settle hP263.ldr (Nat.le_trans hlb hw1.size) hcc hn (m:=d+1) (by omega) (hpl.sztY hcc hz hF hbk) (by omega)) ?_)))
        rintro _ v264 ⟨rfl,hl265,us266⟩
        refine ret_intro ?_
        have no267:=hP263.ldr.no64
        have hw2:UpS (LS n gl gs gr RA ra) w v264:=hw1.trans us266
        obtain⟨ps268,Y268,hP268⟩:=(hl265).op
        refine ne_ (sr (mv 1 rfl (ne_ (cw_ret (eo_ret [.bool true] rfl ⟨rfl,trivial⟩ ?_)))))
        exact⟨by rw [(put_yes hbk).1];rfl,hP268.ldr.cong (fun a b _ _=>by rw [(put_yes hbk).2]),hw2⟩
     · 
      have hnd:decide (Y d (ldr cc (Y d))<0)=false:=decide_eq_false hng
      obtain⟨pz269,hpz269,hcz269⟩:=((hP12.ext (e19.trans e30)).ho).rowAt (i:=d) (by omega)
      obtain⟨pz270,sz270,Bz270,nz270,cz270,hpz270,ldz270,hKz270,zz270⟩:=((hP12.ext (e19.trans e30)).hc).at (hP12.per.lt d (by omega)) (show ldr cc (Y d)<cc by omega)
      have zz270:=zz270.cast (hP12.ent d (ldr cc (Y d)) (by omega) (by omega)).symm
      refine cw_draw mix 18 [] [Is (.pointer (some ⟨gl,0,none⟩)),Is (.pointer (some ⟨gl,0,none⟩)),Is (.pointer (some ⟨gl,0,none⟩)),Is (.slice RA n rcap),Is (.int .i64 ((d:Nat):Int)),Is (.pointer (some pz269)),Is (.slice (ra (ps12.getD d 0)) cc (rc (ps12.getD d 0))),Is (.pointer (some ⟨gl,0,none⟩)),Is (.pointer (some ⟨gl,0,none⟩)),Is (.pointer (some ⟨gl,0,none⟩)),Is (.slice RA n rcap),Is (.int .i64 ((d:Nat):Int)),Is (.pointer (some pz269)),Is (.slice (ra (ps12.getD d 0)) cc (rc (ps12.getD d 0))),Is (.int .i64 ((ldr cc (Y d):Nat):Int)),Is (.pointer (some pz270)),Is (.pointer (some (pz270.add 0))),Is (.bool false)] [[],[0],[1],[2],[],[3,4],[5],[],[7],[8],[9],[],[10,11],[12],[13],[6,14],[15],[16]] [[],[0],[0,1],[0,1,2],[],[0,1,2,3,4],[0,1,2,3,4,5],[],[7],[7,8],[7,8,9],[],[7,8,9,10,11],[7,8,9,10,11,12],[7,8,9,10,11,12,13],[0,1,2,3,4,5,6,7,8,9,10,11,12,13,14],[0,1,2,3,4,5,6,7,8,9,10,11,12,13,14,15],[0,1,2,3,4,5,6,7,8,9,10,11,12,13,14,15,16]] rfl
       (obs_cons rfl rfl (hob rfl rfl ?_) (obs_cons rfl rfl (hob rfl rfl ?_) (obs_cons rfl rfl (hob rfl rfl ?_) (obs_cons rfl rfl (hob rfl rfl ?_) (obs_cons rfl rfl (hob rfl rfl ?_) (obs_cons rfl rfl (hob rfl rfl ?_) (obs_cons rfl rfl (hob rfl rfl ?_) (obs_cons rfl rfl (hob rfl rfl ?_) (obs_cons rfl rfl (hob rfl rfl ?_) (obs_cons rfl rfl (hob rfl rfl ?_) (obs_cons rfl rfl (hob rfl rfl ?_) (obs_cons rfl rfl (hob rfl rfl ?_) (obs_cons rfl rfl (hob rfl rfl ?_) (obs_cons rfl rfl (hob rfl rfl ?_) (obs_cons rfl rfl (hob rfl rfl ?_) (obs_cons rfl rfl (hob rfl rfl ?_) (obs_cons rfl rfl (hob rfl rfl ?_) (obs_cons rfl rfl (hob rfl rfl ?_) obs_nil)))))))))))))))))) ?_
      · 
       intro v271 e272
       have hw4:UpS (LS n gl gs gr RA ra) w v271:=hw3.ext e272
       refine deps_nil (mv 1 rfl ?_)
       exact pi_done rfl (Ext.refl _) rfl
      · 
       intro v273 e274
       have hw4:UpS (LS n gl gs gr RA ra) w v273:=hw3.ext e274
       refine dk rfl rfl (deps_nil (pf gl 0 rfl (by kernel_rfl) ?_))
       exact pi_done rfl (Ext.refl _) rfl
      · 
       intro v280 e281
       have hw4:UpS (LS n gl gs gr RA ra) w v280:=hw3.ext e281
       refine dk rfl rfl (deps_nil (pf gl 0 rfl (by kernel_rfl) ?_))
       exact pi_done rfl (Ext.refl _) rfl
      · 
       intro v287 e288
       have hw4:UpS (LS n gl gs gr RA ra) w v287:=hw3.ext e288
       refine dk rfl rfl (deps_nil (wl_load rfl rfl (load_cell cellRows (hP12.ext (e19.trans (e30.trans e288))).bl rfl) (by decide) ?_))
       exact pi_done rfl (Ext.refl _) rfl
      · 
       intro v294 e295
       have hw4:UpS (LS n gl gs gr RA ra) w v294:=hw3.ext e295
       refine deps_nil (mv 1 rfl ?_)
       exact pi_done rfl (Ext.refl _) rfl
      · 
       intro v296 e297
       have hw4:UpS (LS n gl gs gr RA ra) w v296:=hw3.ext e297
       refine dk rfl rfl (dk rfl rfl (deps_nil (wl_idx rfl rfl rfl unRows szInts d rfl (by omega) pz269 hpz269 (by decide) ?_)))
       exact pi_done rfl (Ext.refl _) rfl
      · 
       intro v308 e309
       have hw4:UpS (LS n gl gs gr RA ra) w v308:=hw3.ext e309
       refine dk rfl rfl (deps_nil (wl_load rfl rfl (load_cell1 cellInts (e309.cell hcz269)) (by decide) ?_))
       exact pi_done rfl (Ext.refl _) rfl
      · 
       intro v315 e316
       have hw4:UpS (LS n gl gs gr RA ra) w v315:=hw3.ext e316
       refine deps_nil (mv 1 rfl ?_)
       exact pi_done rfl (Ext.refl _) rfl
      · 
       intro v317 e318
       have hw4:UpS (LS n gl gs gr RA ra) w v317:=hw3.ext e318
       refine dk rfl rfl (deps_nil (pf gl 0 rfl (by kernel_rfl) ?_))
       exact pi_done rfl (Ext.refl _) rfl
      · 
       intro v324 e325
       have hw4:UpS (LS n gl gs gr RA ra) w v324:=hw3.ext e325
       refine dk rfl rfl (deps_nil (pf gl 0 rfl (by kernel_rfl) ?_))
       exact pi_done rfl (Ext.refl _) rfl
      · 
       intro v331 e332
       have hw4:UpS (LS n gl gs gr RA ra) w v331:=hw3.ext e332
       refine dk rfl rfl (deps_nil (wl_load rfl rfl (load_cell cellRows (hP12.ext (e19.trans (e30.trans e332))).bl rfl) (by decide) ?_))
       exact pi_done rfl (Ext.refl _) rfl
      · 
       intro v338 e339
       have hw4:UpS (LS n gl gs gr RA ra) w v338:=hw3.ext e339
       refine deps_nil (mv 1 rfl ?_)
       exact pi_done rfl (Ext.refl _) rfl
      · 
       intro v340 e341
       have hw4:UpS (LS n gl gs gr RA ra) w v340:=hw3.ext e341
       refine dk rfl rfl (dk rfl rfl (deps_nil (wl_idx rfl rfl rfl unRows szInts d rfl (by omega) pz269 hpz269 (by decide) ?_)))
       exact pi_done rfl (Ext.refl _) rfl
      · 
       intro v352 e353
       have hw4:UpS (LS n gl gs gr RA ra) w v352:=hw3.ext e353
       refine dk rfl rfl (deps_nil (wl_load rfl rfl (load_cell1 cellInts (e353.cell hcz269)) (by decide) ?_))
       exact pi_done rfl (Ext.refl _) rfl
      · 
       intro v359 e360
       have hw4:UpS (LS n gl gs gr RA ra) w v359:=hw3.ext e360
       refine dk rfl rfl (deps_nil (wl_call rfl rfl (vs:= [.slice (ra (ps12.getD d 0)) cc (rc (ps12.getD d 0))]) (by kernel_rfl) (by decide) (g_ld_Lead (hP12.ext (e19.trans (e30.trans e360))) hcc (i:=d) (by omega)) ?_))
       rintro _ v366 ⟨xr368,rfl,r368,e367⟩
       refine ret_intro ?_
       have hw5:UpS (LS n gl gs gr RA ra) w v366:=hw4.ext e367
       obtain rfl:=r368
       exact pi_done rfl e367 rfl
      · 
       intro v369 e370
       have hw4:UpS (LS n gl gs gr RA ra) w v369:=hw3.ext e370
       refine dk rfl rfl (dk rfl rfl (deps_nil (wl_idx rfl rfl rfl elemI aggInt.size (ldr cc (Y d)) rfl (by omega) pz270 hpz270 (by decide) ?_)))
       exact pi_done rfl (Ext.refl _) rfl
      · 
       intro v381 e382
       have hw4:UpS (LS n gl gs gr RA ra) w v381:=hw3.ext e382
       refine dk rfl rfl (deps_nil (pu (v:= .pointer (some (pz270.add 0))) rfl (by kernel_rfl) ?_))
       exact pi_done rfl (Ext.refl _) rfl
      · 
       intro v388 e389
       have hw4:UpS (LS n gl gs gr RA ra) w v388:=hw3.ext e389
       refine dk rfl rfl (deps_nil (wl_load rfl rfl (load_cell1 cellBool ((hP12.ext (e19.trans (e30.trans e389))).neg (i:=d) (j:=(ldr cc (Y d))) (by omega) (by omega) hpz270 hnd)) (by decide) ?_))
       exact pi_done rfl (Ext.refl _) rfl
      · 
       intro v395 e396
       have hw4:UpS (LS n gl gs gr RA ra) w v395:=hw3.ext e396
       refine dk rfl rfl (dk rfl rfl (dk rfl rfl (dk rfl rfl (dk rfl rfl (dk rfl rfl (dk rfl rfl (dk rfl rfl (dk rfl rfl (dk rfl rfl (dk rfl rfl (dk rfl rfl (dk rfl rfl (dk rfl rfl ?_)))))))))))))
       refine dk rfl rfl (dk rfl rfl (dk rfl rfl (dk rfl rfl (deps_nil (wl_nil (eo_np (eo_then (cw_false rfl (cw_skip (eo_then (cw_seq (cw_seq ?_))))))))))))
       have hR0:=(hP12.ext (e19.trans (e30.trans e396))).ldr.cong (Y:=sgnR cc d Y) fun a b _ _=>by rw [sgnR_n hng]
       obtain⟨ps487,Y487,hP487⟩:=(hR0).op
       refine cw_region (mv 2 rfl (ne_ (cw_block ?_)))
       have hS0:=hP487.ldr.cong (Y:=mvU d (d-0) (sgnR cc d Y)) fun a b _ _=>mvU_self a b
       obtain⟨ps488,Y488,hP488⟩:=(hS0).op
       refine cw_loop (T:=World×Nat) (fun⟨ws,s⟩=> [(0,.pointer (some ⟨gl,0,none⟩)),(1,.int .i64 ((d:Nat):Int)),(4,.bool false),(5,.int .i64 ((a1:Nat):Int)),(6,.int .i64 ((ldr cc (Y d):Nat):Int)),(7,.int .i64 ((ldr cc (Y d):Nat):Int)),(8,.int .i64 ((d-s:Nat):Int)),(9,.pointer (some ⟨gl,0,none⟩)),(10,.pointer (some ⟨gl,0,none⟩)),(11,.pointer (some ⟨gl,0,none⟩)),(12,.slice RA n rcap),(13,.int .i64 ((d:Nat):Int)),(14,.pointer (some pz3)),(15,.slice (ra (ps2.getD d 0)) cc (rc (ps2.getD d 0))),(16,.int .i64 ((ldr cc (Y d):Nat):Int)),(17,.int .i64 ((ldr cc (Y d):Nat):Int)),(18,.pointer (some ⟨gl,0,none⟩)),(19,.pointer (some ⟨gl,0,none⟩)),(20,.pointer (some ⟨gl,0,none⟩)),(21,.slice RA n rcap),(22,.int .i64 ((d:Nat):Int)),(23,.pointer (some pz3)),(24,.slice (ra (ps2.getD d 0)) cc (rc (ps2.getD d 0))),(25,.int .i64 ((cc:Nat):Int)),(26,.bool false),(27,.bool false),(28,.int .i64 ((ldr cc (Y d):Nat):Int)),(29,.int .i64 lz),(30,.bool false),(31,.bool false),(35,.int .i64 ((ldr cc (Y d):Nat):Int)),(36,.int .i64 ((a1:Nat):Int)),(37,.int .i64 ((d:Nat):Int)),(38,.bool true),(39,.bool true),(40,.pointer (some ⟨gl,0,none⟩)),(41,.pointer (some ⟨gl,0,none⟩)),(42,.pointer (some ⟨gl,0,none⟩)),(43,.slice RA n rcap),(44,.int .i64 ((a1:Nat):Int)),(45,.pointer (some pz17)),(46,.slice (ra (ps12.getD a1 0)) cc (rc (ps12.getD a1 0))),(47,.int .i64 ((ldr cc (Y a1):Nat):Int)),(48,.int .i64 ((ldr cc (Y d):Nat):Int)),(49,.bool false),(50,.bool false),(53,.int .i64 ((a1:Nat):Int)),(54,.int .i64 ((d:Nat):Int)),(55,.bool false),(56,.bool false),(57,.pointer (some ⟨gl,0,none⟩)),(58,.pointer (some ⟨gl,0,none⟩)),(59,.pointer (some ⟨gl,0,none⟩)),(60,.slice RA n rcap),(61,.int .i64 ((a1:Nat):Int)),(62,.pointer (some pz17)),(63,.slice (ra (ps12.getD a1 0)) cc (rc (ps12.getD a1 0))),(64,.int .i64 ((ldr cc (Y a1):Nat):Int)),(65,.int .i64 ((ldr cc (Y d):Nat):Int)),(66,.bool true),(67,.bool true),(73,.pointer (some ⟨gl,0,none⟩)),(74,.pointer (some ⟨gl,0,none⟩)),(75,.pointer (some ⟨gl,0,none⟩)),(76,.slice RA n rcap),(77,.int .i64 ((d:Nat):Int)),(78,.pointer (some pz269)),(79,.slice (ra (ps12.getD d 0)) cc (rc (ps12.getD d 0))),(80,.pointer (some ⟨gl,0,none⟩)),(81,.pointer (some ⟨gl,0,none⟩)),(82,.pointer (some ⟨gl,0,none⟩)),(83,.slice RA n rcap),(84,.int .i64 ((d:Nat):Int)),(85,.pointer (some pz269)),(86,.slice (ra (ps12.getD d 0)) cc (rc (ps12.getD d 0))),(87,.int .i64 ((ldr cc (Y d):Nat):Int)),(88,.pointer (some pz270)),(89,.pointer (some (pz270.add 0))),(90,.bool false),(94,.int .i64 ((d:Nat):Int))]) (fun⟨ws,s⟩=>ws) (fun⟨ws,s⟩=>(UpS (LS n gl gs gr RA ra) w ws)∧(s≤d-a1)∧(Ldr lb n cc gl gs gr RA rcap ra rc ws (mvU d (d-s) (sgnR cc d Y)))) (fun⟨ws,s⟩=>(d-a1)-s)
        (⟨v395,0⟩:World×Nat) ⟨hw4,(by omega),hP488.ldr⟩ rfl ⟨rfl,rfl,rfl,rfl,rfl,rfl,rfl,rfl,rfl,rfl,rfl,rfl,rfl,rfl,rfl,rfl,rfl,rfl,rfl,rfl,rfl,rfl,rfl,rfl,rfl,rfl,rfl,rfl,rfl,rfl,rfl,rfl,rfl,rfl,rfl,rfl,rfl,rfl,rfl,rfl,rfl,rfl,rfl,rfl,rfl,rfl,rfl,rfl,rfl,rfl,rfl,rfl,rfl,rfl,rfl,rfl,rfl,rfl,rfl,rfl,rfl,rfl,rfl,rfl,rfl,rfl,rfl,rfl,rfl,rfl,rfl,rfl,rfl,rfl,rfl,rfl,rfl,rfl,rfl,rfl,trivial⟩ ?_
       rintro⟨ws,s⟩ ⟨hw1,hi_s,hl_ws⟩
       refine cw_re [(0,.pointer (some ⟨gl,0,none⟩)),(1,.int .i64 ((d:Nat):Int)),(4,.bool false),(5,.int .i64 ((a1:Nat):Int)),(6,.int .i64 ((ldr cc (Y d):Nat):Int)),(7,.int .i64 ((ldr cc (Y d):Nat):Int)),(8,.int .i64 ((d-s:Nat):Int)),(9,.pointer (some ⟨gl,0,none⟩)),(10,.pointer (some ⟨gl,0,none⟩)),(11,.pointer (some ⟨gl,0,none⟩)),(12,.slice RA n rcap),(13,.int .i64 ((d:Nat):Int)),(14,.pointer (some pz3)),(15,.slice (ra (ps2.getD d 0)) cc (rc (ps2.getD d 0))),(16,.int .i64 ((ldr cc (Y d):Nat):Int)),(17,.int .i64 ((ldr cc (Y d):Nat):Int)),(18,.pointer (some ⟨gl,0,none⟩)),(19,.pointer (some ⟨gl,0,none⟩)),(20,.pointer (some ⟨gl,0,none⟩)),(21,.slice RA n rcap),(22,.int .i64 ((d:Nat):Int)),(23,.pointer (some pz3)),(24,.slice (ra (ps2.getD d 0)) cc (rc (ps2.getD d 0))),(25,.int .i64 ((cc:Nat):Int)),(26,.bool false),(27,.bool false),(28,.int .i64 ((ldr cc (Y d):Nat):Int)),(29,.int .i64 lz),(30,.bool false),(31,.bool false),(35,.int .i64 ((ldr cc (Y d):Nat):Int)),(36,.int .i64 ((a1:Nat):Int)),(37,.int .i64 ((d:Nat):Int)),(38,.bool true),(39,.bool true),(40,.pointer (some ⟨gl,0,none⟩)),(41,.pointer (some ⟨gl,0,none⟩)),(42,.pointer (some ⟨gl,0,none⟩)),(43,.slice RA n rcap),(44,.int .i64 ((a1:Nat):Int)),(45,.pointer (some pz17)),(46,.slice (ra (ps12.getD a1 0)) cc (rc (ps12.getD a1 0))),(47,.int .i64 ((ldr cc (Y a1):Nat):Int)),(48,.int .i64 ((ldr cc (Y d):Nat):Int)),(49,.bool false),(50,.bool false),(53,.int .i64 ((a1:Nat):Int)),(54,.int .i64 ((d:Nat):Int)),(55,.bool false),(56,.bool false),(57,.pointer (some ⟨gl,0,none⟩)),(58,.pointer (some ⟨gl,0,none⟩)),(59,.pointer (some ⟨gl,0,none⟩)),(60,.slice RA n rcap),(61,.int .i64 ((a1:Nat):Int)),(62,.pointer (some pz17)),(63,.slice (ra (ps12.getD a1 0)) cc (rc (ps12.getD a1 0))),(64,.int .i64 ((ldr cc (Y a1):Nat):Int)),(65,.int .i64 ((ldr cc (Y d):Nat):Int)),(66,.bool true),(67,.bool true),(73,.pointer (some ⟨gl,0,none⟩)),(74,.pointer (some ⟨gl,0,none⟩)),(75,.pointer (some ⟨gl,0,none⟩)),(76,.slice RA n rcap),(77,.int .i64 ((d:Nat):Int)),(78,.pointer (some pz269)),(79,.slice (ra (ps12.getD d 0)) cc (rc (ps12.getD d 0))),(80,.pointer (some ⟨gl,0,none⟩)),(81,.pointer (some ⟨gl,0,none⟩)),(82,.pointer (some ⟨gl,0,none⟩)),(83,.slice RA n rcap),(84,.int .i64 ((d:Nat):Int)),(85,.pointer (some pz269)),(86,.slice (ra (ps12.getD d 0)) cc (rc (ps12.getD d 0))),(87,.int .i64 ((ldr cc (Y d):Nat):Int)),(88,.pointer (some pz270)),(89,.pointer (some (pz270.add 0))),(90,.bool false),(94,.int .i64 ((d:Nat):Int))] ws rfl ⟨rfl,rfl,rfl,rfl,rfl,rfl,rfl,rfl,rfl,rfl,rfl,rfl,rfl,rfl,rfl,rfl,rfl,rfl,rfl,rfl,rfl,rfl,rfl,rfl,rfl,rfl,rfl,rfl,rfl,rfl,rfl,rfl,rfl,rfl,rfl,rfl,rfl,rfl,rfl,rfl,rfl,rfl,rfl,rfl,rfl,rfl,rfl,rfl,rfl,rfl,rfl,rfl,rfl,rfl,rfl,rfl,rfl,rfl,rfl,rfl,rfl,rfl,rfl,rfl,rfl,rfl,rfl,rfl,rfl,rfl,rfl,rfl,rfl,rfl,rfl,rfl,rfl,rfl,rfl,rfl,trivial⟩ ?_
       obtain⟨ps489,Y489,hP489⟩:=(hl_ws).op
       refine cw_seq (cw_seq ?_)
       by_cases hsd:s<d-a1
       · 
        refine cw_region (mv 2 rfl (wl_cmp rfl rfl rfl true (cb_gt_t (a:=d-s) (b:=a1) rfl rfl (by omega)) (by decide) (ne_ (cw_true rfl (cw_skip (eo_then (cw_seq (cw_block (cw_region (mv 3 rfl (wl_ar rfl rfl rfl (((d-s)-1:Nat):Int) (ai_sub (a:=d-s) (b:=1) rfl rfl (by omega) (by omega)) (by decide) (wl_call rfl rfl (vs:= [.pointer (some ⟨gl,0,none⟩),.int .i64 ((d-s:Nat):Int),.int .i64 (((d-s)-1:Nat):Int)]) (by kernel_rfl) (by decide) (g_ladM_swap hP489.ldr (Nat.le_trans hlb hw1.size) hcc (i:=d-s) (j:=d-s-1) (by omega) (by omega)) ?_))))))))))))
        rintro _ v490 ⟨rfl,hl491,us492⟩
        refine ret_intro ?_
        have no493:=hP489.ldr.no64
        have hw2:UpS (LS n gl gs gr RA ra) w v490:=hw1.trans us492
        obtain⟨ps494,Y494,hP494⟩:=(hl491).op
        refine wl_nil (eo_block_normal (eo_then (cw_region (mv 1 rfl (wl_ar rfl rfl rfl (((d-s)-1:Nat):Int) (ai_sub (a:=d-s) (b:=1) rfl rfl (by omega) (by omega)) (by decide) (mv 1 rfl (wl_nil (eo_round (⟨v490,s+1⟩:World×Nat) ⟨hw2,(by omega),(hP494.ldr.cong fun a b _ _=>(mvU_next (by omega) a b))⟩ (show (d-a1)-(s+1)<(d-a1)-s by omega) rfl ⟨rfl,rfl,rfl,rfl,rfl,rfl,rfl,rfl,rfl,rfl,rfl,rfl,rfl,rfl,rfl,rfl,rfl,rfl,rfl,rfl,rfl,rfl,rfl,rfl,rfl,rfl,rfl,rfl,rfl,rfl,rfl,rfl,rfl,rfl,rfl,rfl,rfl,rfl,rfl,rfl,rfl,rfl,rfl,rfl,rfl,rfl,rfl,rfl,rfl,rfl,rfl,rfl,rfl,rfl,rfl,rfl,rfl,rfl,rfl,rfl,rfl,rfl,rfl,rfl,rfl,rfl,rfl,rfl,rfl,rfl,rfl,rfl,rfl,rfl,rfl,rfl,rfl,rfl,rfl,rfl,trivial⟩))))))))
       · 
        refine cw_region (mv 2 rfl (wl_cmp rfl rfl rfl false (cb_gt_f (a:=d-s) (b:=a1) rfl rfl (by omega)) (by decide) (ne_ (cw_false rfl (cw_exit (eo_thenX (eo_loopX (eo_block_here (eo_then (cw_seq ?_))))))))))
        have hT0:=hP489.ldr.cong (Y:=mvU d a1 (sgnR cc d Y)) fun a b _ _=>by rw [show d-s=a1 by omega]
        obtain⟨ps495,Y495,hP495⟩:=(hT0).op
        refine cw_region (mv 2 rfl (wl_ar rfl rfl rfl ((d+1:Nat):Int) (ai_add (a:=d) (b:=1) rfl rfl (by omega)) (by decide) (wl_call rfl rfl (vs:= [.pointer (some ⟨gl,0,none⟩),.int .i64 ((d+1:Nat):Int)]) (by kernel_rfl) (by decide) (g_ladM_settle hP495.ldr (Nat.le_trans hlb hw1.size) hcc hn (m:=d+1) (by omega) (hpl.sztY hcc hz hF hbk) (by omega)) ?_)))
        rintro _ v496 ⟨rfl,hl497,us498⟩
        refine ret_intro ?_
        have no499:=hP495.ldr.no64
        have hw2:UpS (LS n gl gs gr RA ra) w v496:=hw1.trans us498
        obtain⟨ps500,Y500,hP500⟩:=(hl497).op
        refine ne_ (sr (mv 1 rfl (ne_ (cw_ret (eo_ret [.bool true] rfl ⟨rfl,trivial⟩ ?_)))))
        exact⟨by rw [(put_yes hbk).1];rfl,hP500.ldr.cong (fun a b _ _=>by rw [(put_yes hbk).2]),hw2⟩
  · 
   refine cw_region (mv 2 rfl (wl_cmp rfl rfl rfl false (cb_lt_f (a:=a1) (b:=d) rfl rfl (by omega)) (by decide) (mv 11 rfl (pu (v:= .bool false) rfl (by kernel_rfl) (ne_ (cw_false rfl (cw_exit (eo_thenX (eo_loopX (eo_block_here (eo_then (cw_seq (cw_seq ?_)))))))))))))
   have hadv:adv cc (Y) (ldr cc (Y d)) (d-a) a=a1:=adv_eq haa hi_a1 had (fun _=>by omega)
   have hbk:=hpl.brk hjl hadv (Or.inl (by omega))
   refine cw_region (mv 2 rfl (wl_cmp rfl rfl rfl true (cb_eq_t (a:=a1) (b:=d) rfl rfl (by omega)) (by decide) (mv 11 rfl (pu (v:= .bool true) rfl (by kernel_rfl) (ne_ (cw_true rfl (cw_exit (eo_thenX (eo_block_far (by decide) (eo_loopX (eo_block_here (eo_then (cw_seq ?_)))))))))))))
   refine cw_seq ?_
   by_cases hng:Y d (ldr cc (Y d))<0
   · 
    have hnd:decide (Y d (ldr cc (Y d))<0)=true:=decide_eq_true hng
    obtain⟨pz501,hpz501,hcz501⟩:=(hP12.ho).rowAt (i:=d) (by omega)
    obtain⟨pz502,sz502,Bz502,nz502,cz502,hpz502,ldz502,hKz502,zz502⟩:=(hP12.hc).at (hP12.per.lt d (by omega)) (show ldr cc (Y d)<cc by omega)
    have zz502:=zz502.cast (hP12.ent d (ldr cc (Y d)) (by omega) (by omega)).symm
    refine cw_draw mix 18 [] [Is (.pointer (some ⟨gl,0,none⟩)),Is (.pointer (some ⟨gl,0,none⟩)),Is (.pointer (some ⟨gl,0,none⟩)),Is (.slice RA n rcap),Is (.int .i64 ((d:Nat):Int)),Is (.pointer (some pz501)),Is (.slice (ra (ps12.getD d 0)) cc (rc (ps12.getD d 0))),Is (.pointer (some ⟨gl,0,none⟩)),Is (.pointer (some ⟨gl,0,none⟩)),Is (.pointer (some ⟨gl,0,none⟩)),Is (.slice RA n rcap),Is (.int .i64 ((d:Nat):Int)),Is (.pointer (some pz501)),Is (.slice (ra (ps12.getD d 0)) cc (rc (ps12.getD d 0))),Is (.int .i64 ((ldr cc (Y d):Nat):Int)),Is (.pointer (some pz502)),Is (.pointer (some (pz502.add 0))),Is (.bool true)] [[],[0],[1],[2],[],[3,4],[5],[],[7],[8],[9],[],[10,11],[12],[13],[6,14],[15],[16]] [[],[0],[0,1],[0,1,2],[],[0,1,2,3,4],[0,1,2,3,4,5],[],[7],[7,8],[7,8,9],[],[7,8,9,10,11],[7,8,9,10,11,12],[7,8,9,10,11,12,13],[0,1,2,3,4,5,6,7,8,9,10,11,12,13,14],[0,1,2,3,4,5,6,7,8,9,10,11,12,13,14,15],[0,1,2,3,4,5,6,7,8,9,10,11,12,13,14,15,16]] rfl
     (obs_cons rfl rfl (hob rfl rfl ?_) (obs_cons rfl rfl (hob rfl rfl ?_) (obs_cons rfl rfl (hob rfl rfl ?_) (obs_cons rfl rfl (hob rfl rfl ?_) (obs_cons rfl rfl (hob rfl rfl ?_) (obs_cons rfl rfl (hob rfl rfl ?_) (obs_cons rfl rfl (hob rfl rfl ?_) (obs_cons rfl rfl (hob rfl rfl ?_) (obs_cons rfl rfl (hob rfl rfl ?_) (obs_cons rfl rfl (hob rfl rfl ?_) (obs_cons rfl rfl (hob rfl rfl ?_) (obs_cons rfl rfl (hob rfl rfl ?_) (obs_cons rfl rfl (hob rfl rfl ?_) (obs_cons rfl rfl (hob rfl rfl ?_) (obs_cons rfl rfl (hob rfl rfl ?_) (obs_cons rfl rfl (hob rfl rfl ?_) (obs_cons rfl rfl (hob rfl rfl ?_) (obs_cons rfl rfl (hob rfl rfl ?_) obs_nil)))))))))))))))))) ?_
    · 
     intro v503 e504
     have hw2:UpS (LS n gl gs gr RA ra) w v503:=hw1.ext e504
     refine deps_nil (mv 1 rfl ?_)
     exact pi_done rfl (Ext.refl _) rfl
    · 
     intro v505 e506
     have hw2:UpS (LS n gl gs gr RA ra) w v505:=hw1.ext e506
     refine dk rfl rfl (deps_nil (pf gl 0 rfl (by kernel_rfl) ?_))
     exact pi_done rfl (Ext.refl _) rfl
    · 
     intro v512 e513
     have hw2:UpS (LS n gl gs gr RA ra) w v512:=hw1.ext e513
     refine dk rfl rfl (deps_nil (pf gl 0 rfl (by kernel_rfl) ?_))
     exact pi_done rfl (Ext.refl _) rfl
    · 
     intro v519 e520
     have hw2:UpS (LS n gl gs gr RA ra) w v519:=hw1.ext e520
     refine dk rfl rfl (deps_nil (wl_load rfl rfl (load_cell cellRows (hP12.ext e520).bl rfl) (by decide) ?_))
     exact pi_done rfl (Ext.refl _) rfl
    · 
     intro v526 e527
     have hw2:UpS (LS n gl gs gr RA ra) w v526:=hw1.ext e527
     refine deps_nil (mv 1 rfl ?_)
     exact pi_done rfl (Ext.refl _) rfl
    · 
     intro v528 e529
     have hw2:UpS (LS n gl gs gr RA ra) w v528:=hw1.ext e529
     refine dk rfl rfl (dk rfl rfl (deps_nil (wl_idx rfl rfl rfl unRows szInts d rfl (by omega) pz501 hpz501 (by decide) ?_)))
     exact pi_done rfl (Ext.refl _) rfl
    · 
     intro v540 e541
     have hw2:UpS (LS n gl gs gr RA ra) w v540:=hw1.ext e541
     refine dk rfl rfl (deps_nil (wl_load rfl rfl (load_cell1 cellInts (e541.cell hcz501)) (by decide) ?_))
     exact pi_done rfl (Ext.refl _) rfl
    · 
     intro v547 e548
     have hw2:UpS (LS n gl gs gr RA ra) w v547:=hw1.ext e548
     refine deps_nil (mv 1 rfl ?_)
     exact pi_done rfl (Ext.refl _) rfl
    · 
     intro v549 e550
     have hw2:UpS (LS n gl gs gr RA ra) w v549:=hw1.ext e550
     refine dk rfl rfl (deps_nil (pf gl 0 rfl (by kernel_rfl) ?_))
     exact pi_done rfl (Ext.refl _) rfl
    · 
     intro v556 e557
     have hw2:UpS (LS n gl gs gr RA ra) w v556:=hw1.ext e557
     refine dk rfl rfl (deps_nil (pf gl 0 rfl (by kernel_rfl) ?_))
     exact pi_done rfl (Ext.refl _) rfl
    · 
     intro v563 e564
     have hw2:UpS (LS n gl gs gr RA ra) w v563:=hw1.ext e564
     refine dk rfl rfl (deps_nil (wl_load rfl rfl (load_cell cellRows (hP12.ext e564).bl rfl) (by decide) ?_))
     exact pi_done rfl (Ext.refl _) rfl
    · 
     intro v570 e571
     have hw2:UpS (LS n gl gs gr RA ra) w v570:=hw1.ext e571
     refine deps_nil (mv 1 rfl ?_)
     exact pi_done rfl (Ext.refl _) rfl
    · 
     intro v572 e573
     have hw2:UpS (LS n gl gs gr RA ra) w v572:=hw1.ext e573
     refine dk rfl rfl (dk rfl rfl (deps_nil (wl_idx rfl rfl rfl unRows szInts d rfl (by omega) pz501 hpz501 (by decide) ?_)))
     exact pi_done rfl (Ext.refl _) rfl
    · 
     intro v584 e585
     have hw2:UpS (LS n gl gs gr RA ra) w v584:=hw1.ext e585
     refine dk rfl rfl (deps_nil (wl_load rfl rfl (load_cell1 cellInts (e585.cell hcz501)) (by decide) ?_))
     exact pi_done rfl (Ext.refl _) rfl
    · 
     intro v591 e592
     have hw2:UpS (LS n gl gs gr RA ra) w v591:=hw1.ext e592
     refine dk rfl rfl (deps_nil (wl_call rfl rfl (vs:= [.slice (ra (ps12.getD d 0)) cc (rc (ps12.getD d 0))]) (by kernel_rfl) (by decide) (g_ld_Lead (hP12.ext e592) hcc (i:=d) (by omega)) ?_))
     rintro _ v598 ⟨xr600,rfl,r600,e599⟩
     refine ret_intro ?_
     have hw3:UpS (LS n gl gs gr RA ra) w v598:=hw2.ext e599
     obtain rfl:=r600
     exact pi_done rfl e599 rfl
    · 
     intro v601 e602
     have hw2:UpS (LS n gl gs gr RA ra) w v601:=hw1.ext e602
     refine dk rfl rfl (dk rfl rfl (deps_nil (wl_idx rfl rfl rfl elemI aggInt.size (ldr cc (Y d)) rfl (by omega) pz502 hpz502 (by decide) ?_)))
     exact pi_done rfl (Ext.refl _) rfl
    · 
     intro v613 e614
     have hw2:UpS (LS n gl gs gr RA ra) w v613:=hw1.ext e614
     refine dk rfl rfl (deps_nil (pu (v:= .pointer (some (pz502.add 0))) rfl (by kernel_rfl) ?_))
     exact pi_done rfl (Ext.refl _) rfl
    · 
     intro v620 e621
     have hw2:UpS (LS n gl gs gr RA ra) w v620:=hw1.ext e621
     refine dk rfl rfl (deps_nil (wl_load rfl rfl (load_cell1 cellBool ((hP12.ext e621).neg (i:=d) (j:=(ldr cc (Y d))) (by omega) (by omega) hpz502 hnd)) (by decide) ?_))
     exact pi_done rfl (Ext.refl _) rfl
    · 
     intro v627 e628
     have hw2:UpS (LS n gl gs gr RA ra) w v627:=hw1.ext e628
     refine dk rfl rfl (dk rfl rfl (dk rfl rfl (dk rfl rfl (dk rfl rfl (dk rfl rfl (dk rfl rfl (dk rfl rfl (dk rfl rfl (dk rfl rfl (dk rfl rfl (dk rfl rfl (dk rfl rfl (dk rfl rfl ?_)))))))))))))
     refine dk rfl rfl (dk rfl rfl (dk rfl rfl (dk rfl rfl (deps_nil (wl_nil (eo_np (eo_then (cw_true rfl (cw_region (mv 2 rfl (wl_call rfl rfl (vs:= [.pointer (some ⟨gl,0,none⟩),.int .i64 ((d:Nat):Int)]) (by kernel_rfl) (by decide) (g_ladM_turn (hP12.ext e628).ldr (Nat.le_trans hlb hw2.size) hcc (i:=d) (by omega)) ?_)))))))))))
     rintro _ v719 ⟨rfl,hl720,us721⟩
     refine ret_intro ?_
     have no722:=(hP12.ext e628).ldr.no64
     have hw3:UpS (LS n gl gs gr RA ra) w v719:=hw2.trans us721
     obtain⟨ps723,Y723,hP723⟩:=(hl720).op
     refine ne_ (cw_seq (cw_seq ?_))
     have hR0:=hP723.ldr.cong (Y:=sgnR cc d Y) fun a b _ _=>by rw [sgnR_y hng]
     obtain⟨ps724,Y724,hP724⟩:=(hR0).op
     refine cw_region (mv 2 rfl (ne_ (cw_block ?_)))
     have hS0:=hP724.ldr.cong (Y:=mvU d (d-0) (sgnR cc d Y)) fun a b _ _=>mvU_self a b
     obtain⟨ps725,Y725,hP725⟩:=(hS0).op
     refine cw_loop (T:=World×Nat) (fun⟨ws,s⟩=> [(0,.pointer (some ⟨gl,0,none⟩)),(1,.int .i64 ((d:Nat):Int)),(4,.bool false),(5,.int .i64 ((a1:Nat):Int)),(6,.int .i64 ((ldr cc (Y d):Nat):Int)),(7,.int .i64 ((ldr cc (Y d):Nat):Int)),(8,.int .i64 ((d-s:Nat):Int)),(9,.pointer (some ⟨gl,0,none⟩)),(10,.pointer (some ⟨gl,0,none⟩)),(11,.pointer (some ⟨gl,0,none⟩)),(12,.slice RA n rcap),(13,.int .i64 ((d:Nat):Int)),(14,.pointer (some pz3)),(15,.slice (ra (ps2.getD d 0)) cc (rc (ps2.getD d 0))),(16,.int .i64 ((ldr cc (Y d):Nat):Int)),(17,.int .i64 ((ldr cc (Y d):Nat):Int)),(18,.pointer (some ⟨gl,0,none⟩)),(19,.pointer (some ⟨gl,0,none⟩)),(20,.pointer (some ⟨gl,0,none⟩)),(21,.slice RA n rcap),(22,.int .i64 ((d:Nat):Int)),(23,.pointer (some pz3)),(24,.slice (ra (ps2.getD d 0)) cc (rc (ps2.getD d 0))),(25,.int .i64 ((cc:Nat):Int)),(26,.bool false),(27,.bool false),(28,.int .i64 ((ldr cc (Y d):Nat):Int)),(29,.int .i64 lz),(30,.bool false),(31,.bool false),(35,.int .i64 ((ldr cc (Y d):Nat):Int)),(36,.int .i64 ((a1:Nat):Int)),(37,.int .i64 ((d:Nat):Int)),(38,.bool false),(39,.bool false),(50,.bool false),(53,.int .i64 ((a1:Nat):Int)),(54,.int .i64 ((d:Nat):Int)),(55,.bool true),(56,.bool true),(67,.bool true),(73,.pointer (some ⟨gl,0,none⟩)),(74,.pointer (some ⟨gl,0,none⟩)),(75,.pointer (some ⟨gl,0,none⟩)),(76,.slice RA n rcap),(77,.int .i64 ((d:Nat):Int)),(78,.pointer (some pz501)),(79,.slice (ra (ps12.getD d 0)) cc (rc (ps12.getD d 0))),(80,.pointer (some ⟨gl,0,none⟩)),(81,.pointer (some ⟨gl,0,none⟩)),(82,.pointer (some ⟨gl,0,none⟩)),(83,.slice RA n rcap),(84,.int .i64 ((d:Nat):Int)),(85,.pointer (some pz501)),(86,.slice (ra (ps12.getD d 0)) cc (rc (ps12.getD d 0))),(87,.int .i64 ((ldr cc (Y d):Nat):Int)),(88,.pointer (some pz502)),(89,.pointer (some (pz502.add 0))),(90,.bool true),(91,.pointer (some ⟨gl,0,none⟩)),(92,.int .i64 ((d:Nat):Int)),(94,.int .i64 ((d:Nat):Int))]) (fun⟨ws,s⟩=>ws) (fun⟨ws,s⟩=>(UpS (LS n gl gs gr RA ra) w ws)∧(s≤d-a1)∧(Ldr lb n cc gl gs gr RA rcap ra rc ws (mvU d (d-s) (sgnR cc d Y)))) (fun⟨ws,s⟩=>(d-a1)-s)
      (⟨v719,0⟩:World×Nat) ⟨hw3,(by omega),hP725.ldr⟩ rfl ⟨rfl,rfl,rfl,rfl,rfl,rfl,rfl,rfl,rfl,rfl,rfl,rfl,rfl,rfl,rfl,rfl,rfl,rfl,rfl,rfl,rfl,rfl,rfl,rfl,rfl,rfl,rfl,rfl,rfl,rfl,rfl,rfl,rfl,rfl,rfl,rfl,rfl,rfl,rfl,rfl,rfl,rfl,rfl,rfl,rfl,rfl,rfl,rfl,rfl,rfl,rfl,rfl,rfl,rfl,rfl,rfl,rfl,rfl,rfl,rfl,rfl,rfl,trivial⟩ ?_
     rintro⟨ws,s⟩ ⟨hw1,hi_s,hl_ws⟩
     refine cw_re [(0,.pointer (some ⟨gl,0,none⟩)),(1,.int .i64 ((d:Nat):Int)),(4,.bool false),(5,.int .i64 ((a1:Nat):Int)),(6,.int .i64 ((ldr cc (Y d):Nat):Int)),(7,.int .i64 ((ldr cc (Y d):Nat):Int)),(8,.int .i64 ((d-s:Nat):Int)),(9,.pointer (some ⟨gl,0,none⟩)),(10,.pointer (some ⟨gl,0,none⟩)),(11,.pointer (some ⟨gl,0,none⟩)),(12,.slice RA n rcap),(13,.int .i64 ((d:Nat):Int)),(14,.pointer (some pz3)),(15,.slice (ra (ps2.getD d 0)) cc (rc (ps2.getD d 0))),(16,.int .i64 ((ldr cc (Y d):Nat):Int)),(17,.int .i64 ((ldr cc (Y d):Nat):Int)),(18,.pointer (some ⟨gl,0,none⟩)),(19,.pointer (some ⟨gl,0,none⟩)),(20,.pointer (some ⟨gl,0,none⟩)),(21,.slice RA n rcap),(22,.int .i64 ((d:Nat):Int)),(23,.pointer (some pz3)),(24,.slice (ra (ps2.getD d 0)) cc (rc (ps2.getD d 0))),(25,.int .i64 ((cc:Nat):Int)),(26,.bool false),(27,.bool false),(28,.int .i64 ((ldr cc (Y d):Nat):Int)),(29,.int .i64 lz),(30,.bool false),(31,.bool false),(35,.int .i64 ((ldr cc (Y d):Nat):Int)),(36,.int .i64 ((a1:Nat):Int)),(37,.int .i64 ((d:Nat):Int)),(38,.bool false),(39,.bool false),(50,.bool false),(53,.int .i64 ((a1:Nat):Int)),(54,.int .i64 ((d:Nat):Int)),(55,.bool true),(56,.bool true),(67,.bool true),(73,.pointer (some ⟨gl,0,none⟩)),(74,.pointer (some ⟨gl,0,none⟩)),(75,.pointer (some ⟨gl,0,none⟩)),(76,.slice RA n rcap),(77,.int .i64 ((d:Nat):Int)),(78,.pointer (some pz501)),(79,.slice (ra (ps12.getD d 0)) cc (rc (ps12.getD d 0))),(80,.pointer (some ⟨gl,0,none⟩)),(81,.pointer (some ⟨gl,0,none⟩)),(82,.pointer (some ⟨gl,0,none⟩)),(83,.slice RA n rcap),(84,.int .i64 ((d:Nat):Int)),(85,.pointer (some pz501)),(86,.slice (ra (ps12.getD d 0)) cc (rc (ps12.getD d 0))),(87,.int .i64 ((ldr cc (Y d):Nat):Int)),(88,.pointer (some pz502)),(89,.pointer (some (pz502.add 0))),(90,.bool true),(91,.pointer (some ⟨gl,0,none⟩)),(92,.int .i64 ((d:Nat):Int)),(94,.int .i64 ((d:Nat):Int))] ws rfl ⟨rfl,rfl,rfl,rfl,rfl,rfl,rfl,rfl,rfl,rfl,rfl,rfl,rfl,rfl,rfl,rfl,rfl,rfl,rfl,rfl,rfl,rfl,rfl,rfl,rfl,rfl,rfl,rfl,rfl,rfl,rfl,rfl,rfl,rfl,rfl,rfl,rfl,rfl,rfl,rfl,rfl,rfl,rfl,rfl,rfl,rfl,rfl,rfl,rfl,rfl,rfl,rfl,rfl,rfl,rfl,rfl,rfl,rfl,rfl,rfl,rfl,rfl,trivial⟩ ?_
     obtain⟨ps726,Y726,hP726⟩:=(hl_ws).op
     refine cw_seq (cw_seq ?_)
     by_cases hsd:s<d-a1
     · 
      refine cw_region (mv 2 rfl (wl_cmp rfl rfl rfl true (cb_gt_t (a:=d-s) (b:=a1) rfl rfl (by omega)) (by decide) (ne_ (cw_true rfl (cw_skip (eo_then (cw_seq (cw_block (cw_region (mv 3 rfl (wl_ar rfl rfl rfl (((d-s)-1:Nat):Int) (ai_sub (a:=d-s) (b:=1) rfl rfl (by omega) (by omega)) (by decide) (wl_call rfl rfl (vs:= [.pointer (some ⟨gl,0,none⟩),.int .i64 ((d-s:Nat):Int),.int .i64 (((d-s)-1:Nat):Int)]) (by kernel_rfl) (by decide) (g_ladM_swap hP726.ldr (Nat.le_trans hlb hw1.size) hcc (i:=d-s) (j:=d-s-1) (by omega) (by omega)) ?_))))))))))))
      rintro _ v727 ⟨rfl,hl728,us729⟩
      refine ret_intro ?_
      have no730:=hP726.ldr.no64
      have hw2:UpS (LS n gl gs gr RA ra) w v727:=hw1.trans us729
      obtain⟨ps731,Y731,hP731⟩:=(hl728).op
      refine wl_nil (eo_block_normal (eo_then (cw_region (mv 1 rfl (wl_ar rfl rfl rfl (((d-s)-1:Nat):Int) (ai_sub (a:=d-s) (b:=1) rfl rfl (by omega) (by omega)) (by decide) (mv 1 rfl (wl_nil (eo_round (⟨v727,s+1⟩:World×Nat) ⟨hw2,(by omega),(hP731.ldr.cong fun a b _ _=>(mvU_next (by omega) a b))⟩ (show (d-a1)-(s+1)<(d-a1)-s by omega) rfl ⟨rfl,rfl,rfl,rfl,rfl,rfl,rfl,rfl,rfl,rfl,rfl,rfl,rfl,rfl,rfl,rfl,rfl,rfl,rfl,rfl,rfl,rfl,rfl,rfl,rfl,rfl,rfl,rfl,rfl,rfl,rfl,rfl,rfl,rfl,rfl,rfl,rfl,rfl,rfl,rfl,rfl,rfl,rfl,rfl,rfl,rfl,rfl,rfl,rfl,rfl,rfl,rfl,rfl,rfl,rfl,rfl,rfl,rfl,rfl,rfl,rfl,rfl,trivial⟩))))))))
     · 
      refine cw_region (mv 2 rfl (wl_cmp rfl rfl rfl false (cb_gt_f (a:=d-s) (b:=a1) rfl rfl (by omega)) (by decide) (ne_ (cw_false rfl (cw_exit (eo_thenX (eo_loopX (eo_block_here (eo_then (cw_seq ?_))))))))))
      have hT0:=hP726.ldr.cong (Y:=mvU d a1 (sgnR cc d Y)) fun a b _ _=>by rw [show d-s=a1 by omega]
      obtain⟨ps732,Y732,hP732⟩:=(hT0).op
      refine cw_region (mv 2 rfl (wl_ar rfl rfl rfl ((d+1:Nat):Int) (ai_add (a:=d) (b:=1) rfl rfl (by omega)) (by decide) (wl_call rfl rfl (vs:= [.pointer (some ⟨gl,0,none⟩),.int .i64 ((d+1:Nat):Int)]) (by kernel_rfl) (by decide) (g_ladM_settle hP732.ldr (Nat.le_trans hlb hw1.size) hcc hn (m:=d+1) (by omega) (hpl.sztY hcc hz hF hbk) (by omega)) ?_)))
      rintro _ v733 ⟨rfl,hl734,us735⟩
      refine ret_intro ?_
      have no736:=hP732.ldr.no64
      have hw2:UpS (LS n gl gs gr RA ra) w v733:=hw1.trans us735
      obtain⟨ps737,Y737,hP737⟩:=(hl734).op
      refine ne_ (sr (mv 1 rfl (ne_ (cw_ret (eo_ret [.bool true] rfl ⟨rfl,trivial⟩ ?_)))))
      exact⟨by rw [(put_yes hbk).1];rfl,hP737.ldr.cong (fun a b _ _=>by rw [(put_yes hbk).2]),hw2⟩
   · 
    have hnd:decide (Y d (ldr cc (Y d))<0)=false:=decide_eq_false hng
    obtain⟨pz738,hpz738,hcz738⟩:=(hP12.ho).rowAt (i:=d) (by omega)
    obtain⟨pz739,sz739,Bz739,nz739,cz739,hpz739,ldz739,hKz739,zz739⟩:=(hP12.hc).at (hP12.per.lt d (by omega)) (show ldr cc (Y d)<cc by omega)
    have zz739:=zz739.cast (hP12.ent d (ldr cc (Y d)) (by omega) (by omega)).symm
    refine cw_draw mix 18 [] [Is (.pointer (some ⟨gl,0,none⟩)),Is (.pointer (some ⟨gl,0,none⟩)),Is (.pointer (some ⟨gl,0,none⟩)),Is (.slice RA n rcap),Is (.int .i64 ((d:Nat):Int)),Is (.pointer (some pz738)),Is (.slice (ra (ps12.getD d 0)) cc (rc (ps12.getD d 0))),Is (.pointer (some ⟨gl,0,none⟩)),Is (.pointer (some ⟨gl,0,none⟩)),Is (.pointer (some ⟨gl,0,none⟩)),Is (.slice RA n rcap),Is (.int .i64 ((d:Nat):Int)),Is (.pointer (some pz738)),Is (.slice (ra (ps12.getD d 0)) cc (rc (ps12.getD d 0))),Is (.int .i64 ((ldr cc (Y d):Nat):Int)),Is (.pointer (some pz739)),Is (.pointer (some (pz739.add 0))),Is (.bool false)] [[],[0],[1],[2],[],[3,4],[5],[],[7],[8],[9],[],[10,11],[12],[13],[6,14],[15],[16]] [[],[0],[0,1],[0,1,2],[],[0,1,2,3,4],[0,1,2,3,4,5],[],[7],[7,8],[7,8,9],[],[7,8,9,10,11],[7,8,9,10,11,12],[7,8,9,10,11,12,13],[0,1,2,3,4,5,6,7,8,9,10,11,12,13,14],[0,1,2,3,4,5,6,7,8,9,10,11,12,13,14,15],[0,1,2,3,4,5,6,7,8,9,10,11,12,13,14,15,16]] rfl
     (obs_cons rfl rfl (hob rfl rfl ?_) (obs_cons rfl rfl (hob rfl rfl ?_) (obs_cons rfl rfl (hob rfl rfl ?_) (obs_cons rfl rfl (hob rfl rfl ?_) (obs_cons rfl rfl (hob rfl rfl ?_) (obs_cons rfl rfl (hob rfl rfl ?_) (obs_cons rfl rfl (hob rfl rfl ?_) (obs_cons rfl rfl (hob rfl rfl ?_) (obs_cons rfl rfl (hob rfl rfl ?_) (obs_cons rfl rfl (hob rfl rfl ?_) (obs_cons rfl rfl (hob rfl rfl ?_) (obs_cons rfl rfl (hob rfl rfl ?_) (obs_cons rfl rfl (hob rfl rfl ?_) (obs_cons rfl rfl (hob rfl rfl ?_) (obs_cons rfl rfl (hob rfl rfl ?_) (obs_cons rfl rfl (hob rfl rfl ?_) (obs_cons rfl rfl (hob rfl rfl ?_) (obs_cons rfl rfl (hob rfl rfl ?_) obs_nil)))))))))))))))))) ?_
    · 
     intro v740 e741
     have hw2:UpS (LS n gl gs gr RA ra) w v740:=hw1.ext e741
     refine deps_nil (mv 1 rfl ?_)
     exact pi_done rfl (Ext.refl _) rfl
    · 
     intro v742 e743
     have hw2:UpS (LS n gl gs gr RA ra) w v742:=hw1.ext e743
     refine dk rfl rfl (deps_nil (pf gl 0 rfl (by kernel_rfl) ?_))
     exact pi_done rfl (Ext.refl _) rfl
    · 
     intro v749 e750
     have hw2:UpS (LS n gl gs gr RA ra) w v749:=hw1.ext e750
     refine dk rfl rfl (deps_nil (pf gl 0 rfl (by kernel_rfl) ?_))
     exact pi_done rfl (Ext.refl _) rfl
    · 
     intro v756 e757
     have hw2:UpS (LS n gl gs gr RA ra) w v756:=hw1.ext e757
     refine dk rfl rfl (deps_nil (wl_load rfl rfl (load_cell cellRows (hP12.ext e757).bl rfl) (by decide) ?_))
     exact pi_done rfl (Ext.refl _) rfl
    · 
     intro v763 e764
     have hw2:UpS (LS n gl gs gr RA ra) w v763:=hw1.ext e764
     refine deps_nil (mv 1 rfl ?_)
     exact pi_done rfl (Ext.refl _) rfl
    · 
     intro v765 e766
     have hw2:UpS (LS n gl gs gr RA ra) w v765:=hw1.ext e766
     refine dk rfl rfl (dk rfl rfl (deps_nil (wl_idx rfl rfl rfl unRows szInts d rfl (by omega) pz738 hpz738 (by decide) ?_)))
     exact pi_done rfl (Ext.refl _) rfl
    · 
     intro v777 e778
     have hw2:UpS (LS n gl gs gr RA ra) w v777:=hw1.ext e778
     refine dk rfl rfl (deps_nil (wl_load rfl rfl (load_cell1 cellInts (e778.cell hcz738)) (by decide) ?_))
     exact pi_done rfl (Ext.refl _) rfl
    · 
     intro v784 e785
     have hw2:UpS (LS n gl gs gr RA ra) w v784:=hw1.ext e785
     refine deps_nil (mv 1 rfl ?_)
     exact pi_done rfl (Ext.refl _) rfl
    · 
     intro v786 e787
     have hw2:UpS (LS n gl gs gr RA ra) w v786:=hw1.ext e787
     refine dk rfl rfl (deps_nil (pf gl 0 rfl (by kernel_rfl) ?_))
     exact pi_done rfl (Ext.refl _) rfl
    · 
     intro v793 e794
     have hw2:UpS (LS n gl gs gr RA ra) w v793:=hw1.ext e794
     refine dk rfl rfl (deps_nil (pf gl 0 rfl (by kernel_rfl) ?_))
     exact pi_done rfl (Ext.refl _) rfl
    · 
     intro v800 e801
     have hw2:UpS (LS n gl gs gr RA ra) w v800:=hw1.ext e801
     refine dk rfl rfl (deps_nil (wl_load rfl rfl (load_cell cellRows (hP12.ext e801).bl rfl) (by decide) ?_))
     exact pi_done rfl (Ext.refl _) rfl
    · 
     intro v807 e808
     have hw2:UpS (LS n gl gs gr RA ra) w v807:=hw1.ext e808
     refine deps_nil (mv 1 rfl ?_)
     exact pi_done rfl (Ext.refl _) rfl
    · 
     intro v809 e810
     have hw2:UpS (LS n gl gs gr RA ra) w v809:=hw1.ext e810
     refine dk rfl rfl (dk rfl rfl (deps_nil (wl_idx rfl rfl rfl unRows szInts d rfl (by omega) pz738 hpz738 (by decide) ?_)))
     exact pi_done rfl (Ext.refl _) rfl
    · 
     intro v821 e822
     have hw2:UpS (LS n gl gs gr RA ra) w v821:=hw1.ext e822
     refine dk rfl rfl (deps_nil (wl_load rfl rfl (load_cell1 cellInts (e822.cell hcz738)) (by decide) ?_))
     exact pi_done rfl (Ext.refl _) rfl
    · 
     intro v828 e829
     have hw2:UpS (LS n gl gs gr RA ra) w v828:=hw1.ext e829
     refine dk rfl rfl (deps_nil (wl_call rfl rfl (vs:= [.slice (ra (ps12.getD d 0)) cc (rc (ps12.getD d 0))]) (by kernel_rfl) (by decide) (g_ld_Lead (hP12.ext e829) hcc (i:=d) (by omega)) ?_))
     rintro _ v835 ⟨xr837,rfl,r837,e836⟩
     refine ret_intro ?_
     have hw3:UpS (LS n gl gs gr RA ra) w v835:=hw2.ext e836
     obtain rfl:=r837
     exact pi_done rfl e836 rfl
    · 
     intro v838 e839
     have hw2:UpS (LS n gl gs gr RA ra) w v838:=hw1.ext e839
     refine dk rfl rfl (dk rfl rfl (deps_nil (wl_idx rfl rfl rfl elemI aggInt.size (ldr cc (Y d)) rfl (by omega) pz739 hpz739 (by decide) ?_)))
     exact pi_done rfl (Ext.refl _) rfl
    · 
     intro v850 e851
     have hw2:UpS (LS n gl gs gr RA ra) w v850:=hw1.ext e851
     refine dk rfl rfl (deps_nil (pu (v:= .pointer (some (pz739.add 0))) rfl (by kernel_rfl) ?_))
     exact pi_done rfl (Ext.refl _) rfl
    · 
     intro v857 e858
     have hw2:UpS (LS n gl gs gr RA ra) w v857:=hw1.ext e858
     refine dk rfl rfl (deps_nil (wl_load rfl rfl (load_cell1 cellBool ((hP12.ext e858).neg (i:=d) (j:=(ldr cc (Y d))) (by omega) (by omega) hpz739 hnd)) (by decide) ?_))
     exact pi_done rfl (Ext.refl _) rfl
    · 
     intro v864 e865
     have hw2:UpS (LS n gl gs gr RA ra) w v864:=hw1.ext e865
     refine dk rfl rfl (dk rfl rfl (dk rfl rfl (dk rfl rfl (dk rfl rfl (dk rfl rfl (dk rfl rfl (dk rfl rfl (dk rfl rfl (dk rfl rfl (dk rfl rfl (dk rfl rfl (dk rfl rfl (dk rfl rfl ?_)))))))))))))
     refine dk rfl rfl (dk rfl rfl (dk rfl rfl (dk rfl rfl (deps_nil (wl_nil (eo_np (eo_then (cw_false rfl (cw_skip (eo_then (cw_seq (cw_seq ?_))))))))))))
     have hR0:=(hP12.ext e865).ldr.cong (Y:=sgnR cc d Y) fun a b _ _=>by rw [sgnR_n hng]
     obtain⟨ps956,Y956,hP956⟩:=(hR0).op
     refine cw_region (mv 2 rfl (ne_ (cw_block ?_)))
     have hS0:=hP956.ldr.cong (Y:=mvU d (d-0) (sgnR cc d Y)) fun a b _ _=>mvU_self a b
     obtain⟨ps957,Y957,hP957⟩:=(hS0).op
     refine cw_loop (T:=World×Nat) (fun⟨ws,s⟩=> [(0,.pointer (some ⟨gl,0,none⟩)),(1,.int .i64 ((d:Nat):Int)),(4,.bool false),(5,.int .i64 ((a1:Nat):Int)),(6,.int .i64 ((ldr cc (Y d):Nat):Int)),(7,.int .i64 ((ldr cc (Y d):Nat):Int)),(8,.int .i64 ((d-s:Nat):Int)),(9,.pointer (some ⟨gl,0,none⟩)),(10,.pointer (some ⟨gl,0,none⟩)),(11,.pointer (some ⟨gl,0,none⟩)),(12,.slice RA n rcap),(13,.int .i64 ((d:Nat):Int)),(14,.pointer (some pz3)),(15,.slice (ra (ps2.getD d 0)) cc (rc (ps2.getD d 0))),(16,.int .i64 ((ldr cc (Y d):Nat):Int)),(17,.int .i64 ((ldr cc (Y d):Nat):Int)),(18,.pointer (some ⟨gl,0,none⟩)),(19,.pointer (some ⟨gl,0,none⟩)),(20,.pointer (some ⟨gl,0,none⟩)),(21,.slice RA n rcap),(22,.int .i64 ((d:Nat):Int)),(23,.pointer (some pz3)),(24,.slice (ra (ps2.getD d 0)) cc (rc (ps2.getD d 0))),(25,.int .i64 ((cc:Nat):Int)),(26,.bool false),(27,.bool false),(28,.int .i64 ((ldr cc (Y d):Nat):Int)),(29,.int .i64 lz),(30,.bool false),(31,.bool false),(35,.int .i64 ((ldr cc (Y d):Nat):Int)),(36,.int .i64 ((a1:Nat):Int)),(37,.int .i64 ((d:Nat):Int)),(38,.bool false),(39,.bool false),(50,.bool false),(53,.int .i64 ((a1:Nat):Int)),(54,.int .i64 ((d:Nat):Int)),(55,.bool true),(56,.bool true),(67,.bool true),(73,.pointer (some ⟨gl,0,none⟩)),(74,.pointer (some ⟨gl,0,none⟩)),(75,.pointer (some ⟨gl,0,none⟩)),(76,.slice RA n rcap),(77,.int .i64 ((d:Nat):Int)),(78,.pointer (some pz738)),(79,.slice (ra (ps12.getD d 0)) cc (rc (ps12.getD d 0))),(80,.pointer (some ⟨gl,0,none⟩)),(81,.pointer (some ⟨gl,0,none⟩)),(82,.pointer (some ⟨gl,0,none⟩)),(83,.slice RA n rcap),(84,.int .i64 ((d:Nat):Int)),(85,.pointer (some pz738)),(86,.slice (ra (ps12.getD d 0)) cc (rc (ps12.getD d 0))),(87,.int .i64 ((ldr cc (Y d):Nat):Int)),(88,.pointer (some pz739)),(89,.pointer (some (pz739.add 0))),(90,.bool false),(94,.int .i64 ((d:Nat):Int))]) (fun⟨ws,s⟩=>ws) (fun⟨ws,s⟩=>(UpS (LS n gl gs gr RA ra) w ws)∧(s≤d-a1)∧(Ldr lb n cc gl gs gr RA rcap ra rc ws (mvU d (d-s) (sgnR cc d Y)))) (fun⟨ws,s⟩=>(d-a1)-s)
      (⟨v864,0⟩:World×Nat) ⟨hw2,(by omega),hP957.ldr⟩ rfl ⟨rfl,rfl,rfl,rfl,rfl,rfl,rfl,rfl,rfl,rfl,rfl,rfl,rfl,rfl,rfl,rfl,rfl,rfl,rfl,rfl,rfl,rfl,rfl,rfl,rfl,rfl,rfl,rfl,rfl,rfl,rfl,rfl,rfl,rfl,rfl,rfl,rfl,rfl,rfl,rfl,rfl,rfl,rfl,rfl,rfl,rfl,rfl,rfl,rfl,rfl,rfl,rfl,rfl,rfl,rfl,rfl,rfl,rfl,rfl,rfl,trivial⟩ ?_
     rintro⟨ws,s⟩ ⟨hw1,hi_s,hl_ws⟩
     refine cw_re [(0,.pointer (some ⟨gl,0,none⟩)),(1,.int .i64 ((d:Nat):Int)),(4,.bool false),(5,.int .i64 ((a1:Nat):Int)),(6,.int .i64 ((ldr cc (Y d):Nat):Int)),(7,.int .i64 ((ldr cc (Y d):Nat):Int)),(8,.int .i64 ((d-s:Nat):Int)),(9,.pointer (some ⟨gl,0,none⟩)),(10,.pointer (some ⟨gl,0,none⟩)),(11,.pointer (some ⟨gl,0,none⟩)),(12,.slice RA n rcap),(13,.int .i64 ((d:Nat):Int)),(14,.pointer (some pz3)),(15,.slice (ra (ps2.getD d 0)) cc (rc (ps2.getD d 0))),(16,.int .i64 ((ldr cc (Y d):Nat):Int)),(17,.int .i64 ((ldr cc (Y d):Nat):Int)),(18,.pointer (some ⟨gl,0,none⟩)),(19,.pointer (some ⟨gl,0,none⟩)),(20,.pointer (some ⟨gl,0,none⟩)),(21,.slice RA n rcap),(22,.int .i64 ((d:Nat):Int)),(23,.pointer (some pz3)),(24,.slice (ra (ps2.getD d 0)) cc (rc (ps2.getD d 0))),(25,.int .i64 ((cc:Nat):Int)),(26,.bool false),(27,.bool false),(28,.int .i64 ((ldr cc (Y d):Nat):Int)),(29,.int .i64 lz),(30,.bool false),(31,.bool false),(35,.int .i64 ((ldr cc (Y d):Nat):Int)),(36,.int .i64 ((a1:Nat):Int)),(37,.int .i64 ((d:Nat):Int)),(38,.bool false),(39,.bool false),(50,.bool false),(53,.int .i64 ((a1:Nat):Int)),(54,.int .i64 ((d:Nat):Int)),(55,.bool true),(56,.bool true),(67,.bool true),(73,.pointer (some ⟨gl,0,none⟩)),(74,.pointer (some ⟨gl,0,none⟩)),(75,.pointer (some ⟨gl,0,none⟩)),(76,.slice RA n rcap),(77,.int .i64 ((d:Nat):Int)),(78,.pointer (some pz738)),(79,.slice (ra (ps12.getD d 0)) cc (rc (ps12.getD d 0))),(80,.pointer (some ⟨gl,0,none⟩)),(81,.pointer (some ⟨gl,0,none⟩)),(82,.pointer (some ⟨gl,0,none⟩)),(83,.slice RA n rcap),(84,.int .i64 ((d:Nat):Int)),(85,.pointer (some pz738)),(86,.slice (ra (ps12.getD d 0)) cc (rc (ps12.getD d 0))),(87,.int .i64 ((ldr cc (Y d):Nat):Int)),(88,.pointer (some pz739)),(89,.pointer (some (pz739.add 0))),(90,.bool false),(94,.int .i64 ((d:Nat):Int))] ws rfl ⟨rfl,rfl,rfl,rfl,rfl,rfl,rfl,rfl,rfl,rfl,rfl,rfl,rfl,rfl,rfl,rfl,rfl,rfl,rfl,rfl,rfl,rfl,rfl,rfl,rfl,rfl,rfl,rfl,rfl,rfl,rfl,rfl,rfl,rfl,rfl,rfl,rfl,rfl,rfl,rfl,rfl,rfl,rfl,rfl,rfl,rfl,rfl,rfl,rfl,rfl,rfl,rfl,rfl,rfl,rfl,rfl,rfl,rfl,rfl,rfl,trivial⟩ ?_
     obtain⟨ps958,Y958,hP958⟩:=(hl_ws).op
     refine cw_seq (cw_seq ?_)
     by_cases hsd:s<d-a1
     · 
      refine cw_region (mv 2 rfl (wl_cmp rfl rfl rfl true (cb_gt_t (a:=d-s) (b:=a1) rfl rfl (by omega)) (by decide) (ne_ (cw_true rfl (cw_skip (eo_then (cw_seq (cw_block (cw_region (mv 3 rfl (wl_ar rfl rfl rfl (((d-s)-1:Nat):Int) (ai_sub (a:=d-s) (b:=1) rfl rfl (by omega) (by omega)) (by decide) (wl_call rfl rfl (vs:= [.pointer (some ⟨gl,0,none⟩),.int .i64 ((d-s:Nat):Int),.int .i64 (((d-s)-1:Nat):Int)]) (by kernel_rfl) (by decide) (g_ladM_swap hP958.ldr (Nat.le_trans hlb hw1.size) hcc (i:=d-s) (j:=d-s-1) (by omega) (by omega)) ?_))))))))))))
      rintro _ v959 ⟨rfl,hl960,us961⟩
      refine ret_intro ?_
      have no962:=hP958.ldr.no64
      have hw2:UpS (LS n gl gs gr RA ra) w v959:=hw1.trans us961
      obtain⟨ps963,Y963,hP963⟩:=(hl960).op
      refine wl_nil (eo_block_normal (eo_then (cw_region (mv 1 rfl (wl_ar rfl rfl rfl (((d-s)-1:Nat):Int) (ai_sub (a:=d-s) (b:=1) rfl rfl (by omega) (by omega)) (by decide) (mv 1 rfl (wl_nil (eo_round (⟨v959,s+1⟩:World×Nat) ⟨hw2,(by omega),(hP963.ldr.cong fun a b _ _=>(mvU_next (by omega) a b))⟩ (show (d-a1)-(s+1)<(d-a1)-s by omega) rfl ⟨rfl,rfl,rfl,rfl,rfl,rfl,rfl,rfl,rfl,rfl,rfl,rfl,rfl,rfl,rfl,rfl,rfl,rfl,rfl,rfl,rfl,rfl,rfl,rfl,rfl,rfl,rfl,rfl,rfl,rfl,rfl,rfl,rfl,rfl,rfl,rfl,rfl,rfl,rfl,rfl,rfl,rfl,rfl,rfl,rfl,rfl,rfl,rfl,rfl,rfl,rfl,rfl,rfl,rfl,rfl,rfl,rfl,rfl,rfl,rfl,trivial⟩))))))))
     · 
      refine cw_region (mv 2 rfl (wl_cmp rfl rfl rfl false (cb_gt_f (a:=d-s) (b:=a1) rfl rfl (by omega)) (by decide) (ne_ (cw_false rfl (cw_exit (eo_thenX (eo_loopX (eo_block_here (eo_then (cw_seq ?_))))))))))
      have hT0:=hP958.ldr.cong (Y:=mvU d a1 (sgnR cc d Y)) fun a b _ _=>by rw [show d-s=a1 by omega]
      obtain⟨ps964,Y964,hP964⟩:=(hT0).op
      refine cw_region (mv 2 rfl (wl_ar rfl rfl rfl ((d+1:Nat):Int) (ai_add (a:=d) (b:=1) rfl rfl (by omega)) (by decide) (wl_call rfl rfl (vs:= [.pointer (some ⟨gl,0,none⟩),.int .i64 ((d+1:Nat):Int)]) (by kernel_rfl) (by decide) (g_ladM_settle hP964.ldr (Nat.le_trans hlb hw1.size) hcc hn (m:=d+1) (by omega) (hpl.sztY hcc hz hF hbk) (by omega)) ?_)))
      rintro _ v965 ⟨rfl,hl966,us967⟩
      refine ret_intro ?_
      have no968:=hP964.ldr.no64
      have hw2:UpS (LS n gl gs gr RA ra) w v965:=hw1.trans us967
      obtain⟨ps969,Y969,hP969⟩:=(hl966).op
      refine ne_ (sr (mv 1 rfl (ne_ (cw_ret (eo_ret [.bool true] rfl ⟨rfl,trivial⟩ ?_)))))
      exact⟨by rw [(put_yes hbk).1];rfl,hP969.ldr.cong (fun a b _ _=>by rw [(put_yes hbk).2]),hw2⟩
structure Szr (A:Mx) (n c B:Nat):Prop where
 ent:∀i b,i<n→b<c→ln (A i b)≤B
 red:∀d e Z,Rin A n c d e Z→∀i b,i<d→b<c→ln (Z i b)≤B
section
variable {A Z:Mx}{n c d e B:Nat}
theorem Szr.put (h:Szr A n c B) (hR:Rin A n c d e Z) (hde:d<e):∀i b,i≤d→b<c→ln (Z i b)≤B:=fun i b hi hb=>by
 by_cases e1:i=d
 ·have h1:=hR.un 0 (by omega)
  have h2:=hR.eN
  rw [Nat.add_zero,Nat.add_zero] at h1
  rw [e1,h1]
  exact h.ent _ b (by omega) hb
 ·exact h.red d e Z hR i b (by omega) hb
theorem Szr.fin (h:Szr A n c B) (hR:Rin A n c d e Z) (hde:d<e):∀i b,i<pN c d Z→b<c→ln (putF Ebz c d Z i b)≤B:=fun i b hi hb=>by
 unfold pN at hi
 by_cases hp:putB Ebz c d Z=true
 ·rw [if_pos hp] at hi
  exact h.red _ _ _ (hR.yes Ebz_ok hde hp) i b hi hb
 ·rw [if_neg hp] at hi
  have h1:=h.red _ _ _ (hR.no Ebz_ok hde (by simpa using hp)) i b hi hb
  unfold mvD at h1
  rw [if_neg (by omega),if_neg (by omega)] at h1
  exact h1
theorem mvD_self (i b:Nat):mvD d d Z i b=Z i b:=by
 unfold mvD
 by_cases e:i=d
 ·rw [if_pos e,e]
 ·rw [if_neg e,if_neg (by omega)]
theorem mvD_next {s:Nat}(hs:d≤s) (i b:Nat):mvD d (s+1) Z i b=swR s (s+1) (mvD d s Z) i b:=by
 unfold swR mvD
 by_cases e1:i=s
 ·subst e1
  rw [if_neg (by omega),if_pos (by omega),if_pos rfl,if_neg (by omega),if_neg (by omega)]
 ·by_cases e2:i=s+1
  ·subst e2
   rw [if_pos rfl,if_neg e1,if_pos rfl,if_pos rfl]
  ·rw [if_neg e2,if_neg e1,if_neg e2,if_neg e1]
   by_cases e3:d≤i∧i<s
   ·rw [if_pos e3,if_pos (by omega)]
   ·rw [if_neg e3,if_neg (by omega)]
end
set_option maxHeartbeats 8000000 in
set_option maxRecDepth 20000 in
theorem g_ladM_Reduce {w:World}{lb n cc gl gs gr:Nat}{RA:Option Addr}{rcap:Nat}{ra:Nat→Option Addr}{rc:Nat→Nat}{Z:Mx}(hL:Ldr lb n cc gl gs gr RA rcap ra rc w Z) (hlb:lb≤w.heap.size) (hcc:cc≤64){B:Nat}(hn:n≤64) (hS:Szr Z n cc B) (hB34:B+1≤17179869184) (hK:200*B+400≤68719476736):
    Calls Tryz.prog 52 #[.pointer (some ⟨gl,0,none⟩)] w (fun e w'=>∃d Y,e= .returned (.int .i64 ((d:Nat):Int))∧Rin Z n cc d d Y∧Ldr lb n cc gl gs gr RA rcap ra rc w' Y∧UpS (LS n gl gs gr RA ra) w w'):=by
 refine sx_enter Tryz.func52 rfl (n:=33) rfl (bq rfl) (args:= [.pointer (some ⟨gl,0,none⟩)]) ?_
 have hLS:∀k,LS n gl gs gr RA ra k→k<w.heap.size:=fun k hk=>(hL.lt hk).2
 obtain⟨ps1,Y1,hP1⟩:=(hL).op
 have hcap:=hP1.ho.rv.le
 refine cw_keep [(0,.pointer (some ⟨gl,0,none⟩))] ⟨rfl,trivial⟩ (sr (mv 1 rfl (ne_ (cw_seq (cw_keep [(0,.pointer (some ⟨gl,0,none⟩)),(2,.int .i64 0)] ⟨rfl,rfl,trivial⟩ ?_)))))
 obtain⟨v2,hv,e3⟩:∃v,v=w.drew∧Ext w v:=⟨_,rfl,(Ext.refl _).drew⟩
 have hw1:UpS (LS n gl gs gr RA ra) w v2:=(UpS.refl (LS n gl gs gr RA ra) w).ext e3
 refine cw_det mix (w:=v2) [.pointer (some ⟨gl,0,none⟩),.pointer (some ⟨gl,0,none⟩),.pointer (some ⟨gl,0,none⟩),.slice RA n rcap,.int .i64 ((n:Nat):Int),I0,.int .i64 ((n:Nat):Int)] [v2] [] [[],[0],[1],[2],[3],[],[4]] [[],[0],[0,1],[0,1,2],[0,1,2,3],[],[0,1,2,3,4,5]] [(0,0),(1,0),(2,0),(3,0),(4,0),(5,0),(6,0)] rfl hv ?_ ?_
 · 
  refine dobs_val _ rfl rfl rfl rfl rfl (rd_move rfl) (dobs_val _ rfl rfl rfl rfl rfl (rd_pure rfl (by kernel_rfl)) (dobs_val _ rfl rfl rfl rfl rfl (rd_pure rfl (by kernel_rfl)) (dobs_val _ rfl rfl rfl rfl rfl (rd_load rfl (load_cell cellRows (hP1.ext e3).bl rfl)) (dobs_val _ rfl rfl rfl rfl rfl (rd_pure rfl (by kernel_rfl)) (dobs_val _ rfl rfl rfl rfl rfl (rd_assign rfl) (dobs_val _ rfl rfl rfl rfl rfl (rd_assign rfl) ?_))))))
  exact dobs_nil
 clear hv
 refine eo_keep [(0,.pointer (some ⟨gl,0,none⟩)),(2,.int .i64 0),(6,.pointer (some ⟨gl,0,none⟩)),(7,.pointer (some ⟨gl,0,none⟩)),(8,.pointer (some ⟨gl,0,none⟩)),(9,.slice RA n rcap),(10,.int .i64 ((n:Nat):Int)),(3,.int .i64 0),(4,.int .i64 ((n:Nat):Int))] ⟨rfl,rfl,rfl,rfl,rfl,rfl,rfl,rfl,rfl,trivial⟩ (eo_then (cw_seq (cw_block ?_)))
 refine cw_loop (T:=World×Nat×Nat×Mx) (fun⟨wr,d,e,Y⟩=> [(0,.pointer (some ⟨gl,0,none⟩)),(2,.int .i64 0),(3,.int .i64 ((d:Nat):Int)),(4,.int .i64 ((e:Nat):Int)),(6,.pointer (some ⟨gl,0,none⟩)),(7,.pointer (some ⟨gl,0,none⟩)),(8,.pointer (some ⟨gl,0,none⟩)),(9,.slice RA n rcap),(10,.int .i64 ((n:Nat):Int))]) (fun⟨wr,d,e,Y⟩=>wr) (fun⟨wr,d,e,Y⟩=>(UpS (LS n gl gs gr RA ra) w wr)∧(d≤n)∧(Ldr lb n cc gl gs gr RA rcap ra rc wr Y)∧(Rin Z n cc d e Y)) (fun⟨wr,d,e,Y⟩=>e-d)
  (⟨v2,0,n,Z⟩:World×Nat×Nat×Mx) ⟨hw1,(by omega),(hP1.ext e3).ldr,(Rin.start Z n cc)⟩ rfl ⟨rfl,rfl,rfl,rfl,rfl,rfl,rfl,rfl,rfl,trivial⟩ ?_
 rintro⟨wr,d,e,Y⟩ ⟨hw1,hi_d,hl_wr,hR⟩
 refine cw_re [(0,.pointer (some ⟨gl,0,none⟩)),(2,.int .i64 0),(3,.int .i64 ((d:Nat):Int)),(4,.int .i64 ((e:Nat):Int)),(6,.pointer (some ⟨gl,0,none⟩)),(7,.pointer (some ⟨gl,0,none⟩)),(8,.pointer (some ⟨gl,0,none⟩)),(9,.slice RA n rcap),(10,.int .i64 ((n:Nat):Int))] wr rfl ⟨rfl,rfl,rfl,rfl,rfl,rfl,rfl,rfl,rfl,trivial⟩ ?_
 obtain⟨ps4,Y4,hP4⟩:=(hl_wr).op
 refine cw_seq (cw_seq ?_)
 have hen:=hR.eN
 by_cases hde:d<e
 · 
  refine cw_region (mv 2 rfl (wl_cmp rfl rfl rfl true (cb_lt_t (a:=d) (b:=e) rfl rfl (by omega)) (by decide) (ne_ (cw_true rfl (cw_skip (eo_then (cw_block (cw_seq ?_))))))))
  by_cases hpb:putB Ebz cc d Y=true
  · 
   refine cw_region (mv 2 rfl ?_)
   have hput:=g_ladM_put hP4.ldr (Nat.le_trans hlb hw1.size) hcc hn (d:=d) (by omega) hR.hf.toEch (hS.put hR hde) (hS.fin hR hde) hB34 hK
   rw [hpb] at hput
   refine wl_call rfl rfl (vs:= [.pointer (some ⟨gl,0,none⟩),.int .i64 ((d:Nat):Int)]) (by kernel_rfl) (by decide) hput ?_
   rintro _ v5 ⟨rfl,hl6,us7⟩
   refine ret_intro ?_
   have no8:=hP4.ldr.no64
   have hw2:UpS (LS n gl gs gr RA ra) w v5:=hw1.trans us7
   obtain⟨ps9,Y9,hP9⟩:=(hl6).op
   refine ne_ (cw_true rfl (cw_region (mv 1 rfl (wl_ar rfl rfl rfl ((d+1:Nat):Int) (ai_add (a:=d) (b:=1) rfl rfl (by omega)) (by decide) (mv 1 rfl (wl_nil (eo_block_normal (eo_round (⟨v5,d+1,e,putF Ebz cc d Y⟩:World×Nat×Nat×Mx) ⟨hw2,(by omega),hP9.ldr,(hR.yes Ebz_ok hde hpb)⟩ (show e-(d+1)<e-d by omega) rfl ⟨rfl,rfl,rfl,rfl,rfl,rfl,rfl,rfl,rfl,trivial⟩))))))))
  · 
   have hpb:putB Ebz cc d Y=false:=by simpa using hpb
   refine cw_region (mv 2 rfl ?_)
   have hput:=g_ladM_put hP4.ldr (Nat.le_trans hlb hw1.size) hcc hn (d:=d) (by omega) hR.hf.toEch (hS.put hR hde) (hS.fin hR hde) hB34 hK
   rw [hpb] at hput
   refine wl_call rfl rfl (vs:= [.pointer (some ⟨gl,0,none⟩),.int .i64 ((d:Nat):Int)]) (by kernel_rfl) (by decide) hput ?_
   rintro _ v10 ⟨rfl,hl11,us12⟩
   refine ret_intro ?_
   have no13:=hP4.ldr.no64
   have hw2:UpS (LS n gl gs gr RA ra) w v10:=hw1.trans us12
   obtain⟨ps14,Y14,hP14⟩:=(hl11).op
   refine ne_ (cw_false rfl (sr (mv 1 rfl (wl_ar rfl rfl rfl ((e-1:Nat):Int) (ai_sub (a:=e) (b:=1) rfl rfl (by omega) (by omega)) (by decide) (mv 1 rfl (ne_ (sr (mv 2 rfl (ne_ (cw_block ?_))))))))))
   have hS0:=hP14.ldr.cong (Y:=mvD d d (putF Ebz cc d Y)) fun a b _ _=>mvD_self a b
   obtain⟨ps15,Y15,hP15⟩:=(hS0).op
   refine cw_loop (T:=World×Nat) (fun⟨wi,i⟩=> [(0,.pointer (some ⟨gl,0,none⟩)),(2,.int .i64 0),(3,.int .i64 ((d:Nat):Int)),(4,.int .i64 ((e-1:Nat):Int)),(5,.int .i64 ((i:Nat):Int)),(6,.pointer (some ⟨gl,0,none⟩)),(7,.pointer (some ⟨gl,0,none⟩)),(8,.pointer (some ⟨gl,0,none⟩)),(9,.slice RA n rcap),(10,.int .i64 ((n:Nat):Int)),(11,.int .i64 ((d:Nat):Int)),(12,.int .i64 ((e:Nat):Int)),(13,.bool true),(14,.pointer (some ⟨gl,0,none⟩)),(15,.int .i64 ((d:Nat):Int)),(16,.bool false),(19,.int .i64 ((e:Nat):Int)),(20,.int .i64 ((e-1:Nat):Int)),(21,.int .i64 ((d:Nat):Int))]) (fun⟨wi,i⟩=>wi) (fun⟨wi,i⟩=>(UpS (LS n gl gs gr RA ra) w wi)∧(i≤e-1)∧(Ldr lb n cc gl gs gr RA rcap ra rc wi (mvD d i (putF Ebz cc d Y)))∧(d≤i)) (fun⟨wi,i⟩=>(e-1)-i)
    (⟨v10,d⟩:World×Nat) ⟨hw2,(by omega),hP15.ldr,(Nat.le_refl d)⟩ rfl ⟨rfl,rfl,rfl,rfl,rfl,rfl,rfl,rfl,rfl,rfl,rfl,rfl,rfl,rfl,rfl,rfl,rfl,rfl,rfl,trivial⟩ ?_
   rintro⟨wi,i⟩ ⟨hw1,hi_i,hl_wi,hdi⟩
   refine cw_re [(0,.pointer (some ⟨gl,0,none⟩)),(2,.int .i64 0),(3,.int .i64 ((d:Nat):Int)),(4,.int .i64 ((e-1:Nat):Int)),(5,.int .i64 ((i:Nat):Int)),(6,.pointer (some ⟨gl,0,none⟩)),(7,.pointer (some ⟨gl,0,none⟩)),(8,.pointer (some ⟨gl,0,none⟩)),(9,.slice RA n rcap),(10,.int .i64 ((n:Nat):Int)),(11,.int .i64 ((d:Nat):Int)),(12,.int .i64 ((e:Nat):Int)),(13,.bool true),(14,.pointer (some ⟨gl,0,none⟩)),(15,.int .i64 ((d:Nat):Int)),(16,.bool false),(19,.int .i64 ((e:Nat):Int)),(20,.int .i64 ((e-1:Nat):Int)),(21,.int .i64 ((d:Nat):Int))] wi rfl ⟨rfl,rfl,rfl,rfl,rfl,rfl,rfl,rfl,rfl,rfl,rfl,rfl,rfl,rfl,rfl,rfl,rfl,rfl,rfl,trivial⟩ ?_
   obtain⟨ps16,Y16,hP16⟩:=(hl_wi).op
   refine cw_seq (cw_seq ?_)
   by_cases hie:i<e-1
   · 
    refine cw_region (mv 2 rfl (wl_cmp rfl rfl rfl true (cb_lt_t (a:=i) (b:=e-1) rfl rfl (by omega)) (by decide) (ne_ (cw_true rfl (cw_skip (eo_then (cw_seq (cw_block (cw_region (mv 3 rfl (wl_ar rfl rfl rfl ((i+1:Nat):Int) (ai_add (a:=i) (b:=1) rfl rfl (by omega)) (by decide) (wl_call rfl rfl (vs:= [.pointer (some ⟨gl,0,none⟩),.int .i64 ((i:Nat):Int),.int .i64 ((i+1:Nat):Int)]) (by kernel_rfl) (by decide) (g_ladM_swap hP16.ldr (Nat.le_trans hlb hw1.size) hcc (i:=i) (j:=i+1) (by omega) (by omega)) ?_))))))))))))
    rintro _ v17 ⟨rfl,hl18,us19⟩
    refine ret_intro ?_
    have no20:=hP16.ldr.no64
    have hw2:UpS (LS n gl gs gr RA ra) w v17:=hw1.trans us19
    obtain⟨ps21,Y21,hP21⟩:=(hl18).op
    refine wl_nil (eo_block_normal (eo_then (cw_region (mv 1 rfl (wl_ar rfl rfl rfl ((i+1:Nat):Int) (ai_add (a:=i) (b:=1) rfl rfl (by omega)) (by decide) (mv 1 rfl (wl_nil (eo_round (⟨v17,i+1⟩:World×Nat) ⟨hw2,(by omega),(hP21.ldr.cong fun a b _ _=>(mvD_next hdi a b)),(by omega)⟩ (show (e-1)-(i+1)<(e-1)-i by omega) rfl ⟨rfl,rfl,rfl,rfl,rfl,rfl,rfl,rfl,rfl,rfl,rfl,rfl,rfl,rfl,rfl,rfl,rfl,rfl,rfl,trivial⟩))))))))
   · 
    refine cw_region (mv 2 rfl (wl_cmp rfl rfl rfl false (cb_lt_f (a:=i) (b:=e-1) rfl rfl (by omega)) (by decide) (ne_ (cw_false rfl (cw_exit (eo_thenX (eo_loopX (eo_block_here (eo_block_normal (eo_round (⟨wi,d,e-1,mvD d (e-1) (putF Ebz cc d Y)⟩:World×Nat×Nat×Mx) ⟨hw1,(by omega),(hP16.ldr.cong fun a b _ _=>by rw [show i=e-1 by omega]),(hR.no Ebz_ok hde hpb)⟩ (show e-1-d<e-d by omega) rfl ⟨rfl,rfl,rfl,rfl,rfl,rfl,rfl,rfl,rfl,trivial⟩))))))))))
 · 
  refine cw_region (mv 2 rfl (wl_cmp rfl rfl rfl false (cb_lt_f (a:=d) (b:=e) rfl rfl (by omega)) (by decide) (ne_ (cw_false rfl (cw_exit (eo_thenX (eo_loopX (eo_block_here (eo_then (sr (mv 2 rfl (ne_ (cw_ret ?_)))))))))))))
  refine eo_ret [.int .i64 ((d:Nat):Int)] rfl ⟨rfl,trivial⟩ ?_
  exact⟨d,Y,rfl,(show e=d by have:=hR.de;omega)▸hR,hP4.ldr,hw1⟩
theorem ln_dvd {x y:Int}{K:Nat}(h:x∣y) (hy:y≠0) (hl:ln y≤K):ln x≤K:=by
 refine Nat.le_trans (ln_mono ?_) hl
 exact Nat.le_of_dvd (by omega) (Int.natAbs_dvd_natAbs.2 h)
section
variable {A Z:Mx}{n c d e:Nat}
theorem Rin.sizes (hn:n≤64) (hA:∀i b,i<n→b<c→ln (A i b)≤1048576) (h:Rin A n c d e Z):∀i b,i<d→b<c→ln (Z i b)≤136323396:=by
 obtain⟨is,hi,hq,hs⟩:=h.both
 have hd:d≤64:=by have:=h.de;have:=h.eN;omega
 have hech:=h.hf.toEch
 have hne:=hech.mnr hq
 have hB:∀k b,k<d→b<c→ln (A (is k) b)≤1048576:=fun k b hk hb=>hA _ b (hi k hk) hb
 have hD:ln (mnr c d Z (fun k=>A (is k)))≤68161666:=by
  refine Nat.le_trans (ln_dt (K:=1048576) d _ fun i j hi' hj=>hB i _ hi' (hech.lt j hj)) ?_
  have:=Nat.mul_le_mul hd (show 1048576+d≤1048640 by omega)
  omega
 have hpv:∀l,l<d→ln (Z l (ldr c (Z l)))≤68161666:=fun l hl=>ln_dvd (hech.dvd hs hl) hne hD
 have hat:∀i l,i<d→l<d→ln (Z i (ldr c (Z l)))≤68161666:=fun i l hi' hl=>by
  rcases Nat.lt_trichotomy i l with h1 | h1 | h1
  ·obtain⟨h2,h3⟩:=h.hf.red i l h1 hl
   exact Nat.le_trans (ln_mono (by omega)) (hpv l hl)
  ·subst h1;exact hpv i hi'
  ·rw [hech.low h1 hi' (Nat.le_refl _)];exact Nat.zero_le _
 intro i b hid hb
 have hid2:=span_id (P:=fun l=>ldr c (Z l)) (fun l hl=>hech.lt l hl) hb (hq i hid)
 have hz:∀l,l<d→ln (zco d (fun k=>A (is k)) (fun l=>ldr c (Z l)) b l)≤68161666:=fun l hl=>by
  unfold zco
  refine Nat.le_trans (ln_dt (K:=1048576) (d+1) _ fun r s hr hs'=>?_) ?_
  ·simp only
   by_cases h1:r<d
   ·rw [if_pos h1]
    refine hB r _ h1 ?_
    split
    ·exact hech.lt s (by assumption)
    ·exact hb
   ·rw [if_neg h1]
    split
    ·exact Nat.le_trans (ln_w1 (by decide) (by decide)) (by decide)
    ·exact Nat.zero_le _
  ·have:=Nat.mul_le_mul (show d+1≤65 by omega) (show 1048576+(d+1)≤1048641 by omega)
   omega
 have hS:ln (mnr c d Z (fun k=>A (is k))*Z i b)≤136323396:=by
  show ln (dt d (fun i j=>A (is i) (ldr c (Z j)))*Z i b)≤_
  rw [hid2,ln_neg]
  refine Nat.le_trans (ln_sm (K:=136323332) fun l hl=>Nat.le_trans (ln_mul (hz l hl) (hat i l hid hl)) (by decide)) (by omega)
 by_cases h0:Z i b=0
 ·rw [h0];exact Nat.zero_le _
 ·exact ln_dvd ⟨_,(Int.mul_comm _ _)⟩ (Int.mul_ne_zero hne h0) hS
theorem szr_A (hn:n≤64) (hA:∀i b,i<n→b<c→ln (A i b)≤1048576):Szr A n c 136323396:=
 ⟨fun i b hi hb=>Nat.le_trans (hA i b hi hb) (by decide),fun d e Z h=>h.sizes hn hA⟩
theorem szr_H {r B:Nat}(hr:r≤n) (hf:Hf c r A) (h0:∀i,r≤i→i<n→∀b,b<c→A i b=0) (hA:∀i b,i<n→b<c→ln (A i b)≤B):Szr A n c B:=
 ⟨hA,fun d e Z h i b hi hb=>by
  rw [h.still hf hr h0 i hi b hb]
  have:=h.de
  have:=h.eN
  exact hA i b (by omega) hb⟩
end
theorem inj_onto:∀(n:Nat) (f:Nat→Nat),(∀i,i<n→f i<n)→(∀i j,i<n→j<n→f i=f j→i=j)→∀r,r<n→∃i,i<n∧f i=r
 | 0,_,_,_,r,hr=>absurd hr (Nat.not_lt_zero r)
 | n+1,f,h1,h2,r,hr=>by
  by_cases e0:r=f n
  ·exact⟨n,Nat.lt_succ_self n,e0.symm⟩
  have hm:=h1 n (Nat.lt_succ_self n)
  have ih:=inj_onto n (fun i=>if f i=n then f n else f i) (fun i hi=>by
   by_cases e:f i=n
   ·rw [if_pos e]
    have:f n≠n:=fun e2=>by have:=h2 i n (by omega) (by omega) (by omega);omega
    omega
   ·rw [if_neg e];have:=h1 i (by omega);omega) (fun i j hi hj e=>by
   by_cases e1:f i=n
   ·by_cases e2:f j=n
    ·exact h2 i j (by omega) (by omega) (by omega)
    ·rw [if_pos e1,if_neg e2] at e
     have:=h2 n j (by omega) (by omega) e;omega
   ·by_cases e2:f j=n
    ·rw [if_neg e1,if_pos e2] at e
     have:=h2 i n (by omega) (by omega) e;omega
    ·rw [if_neg e1,if_neg e2] at e
     exact h2 i j (by omega) (by omega) e)
  by_cases e1:r=n
  ·obtain⟨i,hi,e⟩:=ih (f n) (by omega)
   by_cases e2:f i=n
   ·exact⟨i,by omega,by omega⟩
   ·rw [if_neg e2] at e
    have:=h2 i n (by omega) (by omega) e;omega
  ·obtain⟨i,hi,e⟩:=ih r (by omega)
   by_cases e2:f i=n
   ·rw [if_pos e2] at e;exact absurd e.symm e0
   ·rw [if_neg e2] at e;exact⟨i,by omega,e⟩
theorem Per.onto {n r:Nat}{ps:List Nat}(h:Per n ps) (hr:r<n):∃i,i<n∧ps.getD i 0=r:=inj_onto n (fun i=>ps.getD i 0) h.lt h.inj r hr
section
variable {lb N c gl gs gr:Nat}{RA:Option Addr}{rcap:Nat}{ra:Nat→Option Addr}{rc:Nat→Nat}{w w':World}{ps:List Nat}{Y Z:Mx}
theorem Rcs.wide {K K' n m:Nat}(h:Rcs K lb n m ra rc w Z) (hK:K≤K'):Rcs K' lb n m ra rc w Z:=
 ⟨fun r hr=>by obtain⟨zs,h1,h2⟩:=h.row r hr;exact⟨zs,h1.mono hK (Nat.le_refl _) (Nat.le_refl _),h2⟩,h.dis⟩
theorem Rcs.tight {K K' n m:Nat}(h:Rcs K lb n m ra rc w Z) (hl:∀r j,r<n→j<m→ln (Z r j)≤K'):Rcs K' lb n m ra rc w Z:=
 ⟨fun r hr=>by
  obtain⟨zs,⟨es,h1,h2,h3,h4⟩,h5⟩:=h.row r hr
  exact⟨zs,⟨es,h1,h2,h3,fun i hi=>⟨by rw [(h4 i hi).2.zr.len,h5 i hi];exact hl r i hr hi,(h4 i hi).2⟩⟩,h5⟩,h.dis⟩
theorem Ldr.of (hL:Lns lb N c RA rcap ra rc ps Y w) (bl:Bk w gl 99 [.slice RA N rcap,.slice (some ⟨gs,0,none⟩) 1 1])
  (bs:Bk w gs 112 [fSw gr,fTn gr,fAd gr,fMx gr]) (br:Bk w gr 54 [.slice RA N rcap]) (h:lb≤gl∧lb≤gs∧lb≤gr):Ldr lb N c gl gs gr RA rcap ra rc w (pr Y ps):=
 ⟨bl,bs,br,⟨ps,Y,hL.R,hL.C.wide (by decide),hL.per,fun i j _ _=>rfl⟩,h⟩
theorem Ldr.lns (h:Ldr lb N c gl gs gr RA rcap ra rc w Z) (hB:∀i j,i<N→j<c→ln (Z i j)≤17179869184):∃ps Y,Lns lb N c RA rcap ra rc ps Y w∧∀i j,i<N→j<c→pr Y ps i j=Z i j:=by
 obtain⟨ps,Y,h⟩:=h.op
 refine⟨ps,Y,⟨h.ho,h.hc.tight fun r j hr hj=>?_,h.per⟩,fun i j hi hj=>(h.ent i j hi hj).symm⟩
 obtain⟨i,hi,e⟩:=h.per.onto hr
 rw [←e,←h.ent i j hi hj]
 exact hB i j hi hj
end
set_option maxHeartbeats 4000000 in
theorem g_lad_Like {w:World}{n rcap:Nat}{RA:Option Addr}:
    Calls Tryz.prog 66 #[.slice RA n rcap] w (fun e w'=>∃gr,e= .returned (.agg #[fSw gr,fTn gr,fAd gr,fMx gr])∧w.heap.size≤gr∧Bk w' gr 54 [.slice RA n rcap]∧Ext w w'):=by
 refine sx_enter Tryz.func66 rfl (n:=8) rfl (bq rfl) (args:= [.slice RA n rcap]) (cw_keep [(0,.slice RA n rcap)] ⟨rfl,trivial⟩ (sr (bx [.slice RA n rcap] (Ext.refl w) rfl rfl rfl fun g1 v2 hb4 ge5 e3 hw1=>(alq [.nilFunc,.nilFunc,.nilFunc,.nilFunc] hw1 hb4.lt (fun _=>by kernel_rfl) rfl fun g6 v7 hb9 ge10 q11 e8 hw2=>(ne_ (sr (pu (v:= .func (.func 83) #[] #[.pointer (some ⟨g1,0,none⟩)]) rfl (by kernel_rfl) (pu (v:= .func (.func 84) #[] #[.pointer (some ⟨g1,0,none⟩)]) rfl (by kernel_rfl) (pu (v:= .func (.func 85) #[] #[.pointer (some ⟨g1,0,none⟩)]) rfl (by kernel_rfl) (pu (v:= .func (.func 87) #[] #[.pointer (some ⟨g1,0,none⟩)]) rfl (by kernel_rfl) (pu (v:= .agg #[.func (.func 83) #[] #[.pointer (some ⟨g1,0,none⟩)],.func (.func 84) #[] #[.pointer (some ⟨g1,0,none⟩)],.func (.func 85) #[] #[.pointer (some ⟨g1,0,none⟩)],.func (.func 87) #[] #[.pointer (some ⟨g1,0,none⟩)]]) rfl (by kernel_rfl) (so aggSide hb9 [.func (.func 83) #[] #[.pointer (some ⟨g1,0,none⟩)],.func (.func 84) #[] #[.pointer (some ⟨g1,0,none⟩)],.func (.func 85) #[] #[.pointer (some ⟨g1,0,none⟩)],.func (.func 87) #[] #[.pointer (some ⟨g1,0,none⟩)]] hw2 ge10 rfl rfl rfl rfl fun v12 hb14 u15 hw3=>(wl_nil ?_)))))))))))))
 refine eo_then (cw_ret (eo_ret [.agg #[.func (.func 83) #[] #[.pointer (some ⟨g1,0,none⟩)],.func (.func 84) #[] #[.pointer (some ⟨g1,0,none⟩)],.func (.func 85) #[] #[.pointer (some ⟨g1,0,none⟩)],.func (.func 87) #[] #[.pointer (some ⟨g1,0,none⟩)]]] rfl ⟨⟨_,rfl,load_agg aggSide hb14 [.func (.func 83) #[] #[.pointer (some ⟨g1,0,none⟩)],.func (.func 84) #[] #[.pointer (some ⟨g1,0,none⟩)],.func (.func 85) #[] #[.pointer (some ⟨g1,0,none⟩)],.func (.func 87) #[] #[.pointer (some ⟨g1,0,none⟩)]] rfl (bq rfl) rfl⟩,trivial⟩ ?_))
 exact⟨g1,rfl,ge5,((hb4.ext e8).updN u15 (by omega)),hw3⟩
set_option maxHeartbeats 4000000 in
theorem g_lad_New {w:World}{n rcap:Nat}{RA:Option Addr}:
    Calls Tryz.prog 51 #[.slice RA n rcap] w (fun e w'=>∃gl gs gr,e= .returned (.pointer (some ⟨gl,0,none⟩))∧(w.heap.size≤gl∧w.heap.size≤gs∧w.heap.size≤gr)∧Bk w' gl 99 [.slice RA n rcap,.slice (some ⟨gs,0,none⟩) 1 1]∧Bk w' gs 112 [fSw gr,fTn gr,fAd gr,fMx gr]∧Bk w' gr 54 [.slice RA n rcap]∧Ext w w'):=by
 refine sx_enter Tryz.func51 rfl (n:=14) rfl (bq rfl) (args:= [.slice RA n rcap]) (cw_keep [(0,.slice RA n rcap)] ⟨rfl,trivial⟩ (sr (mv 1 rfl (ne_ (sr (mv 1 rfl (pu (v:= .agg #[.slice RA n rcap,S0]) rfl (by kernel_rfl) (bx [.slice RA n rcap,S0] (Ext.refl w) rfl rfl rfl fun g1 v2 hb4 ge5 e3 hw1=>(mv 1 rfl (ne_ (sr (mv 2 rfl (wl_call rfl rfl (vs:= [.slice RA n rcap]) (by kernel_rfl) (by decide) g_lad_Like ?_)))))))))))))
 rintro _ v6 ⟨gr,rfl,hr7,hb8,e9⟩
 refine ret_intro ?_
 have hqr:g1<gr:=Nat.lt_of_lt_of_le hb4.lt hr7
 have hger:w.heap.size≤gr:=Nat.le_trans hw1.size hr7
 have hw2:=hw1.trans e9
 refine wl_bslice rfl rfl (by decide) (k:=1) (e:=112) [.func (.func 83) #[] #[.pointer (some ⟨gr,0,none⟩)],.func (.func 84) #[] #[.pointer (some ⟨gr,0,none⟩)],.func (.func 85) #[] #[.pointer (some ⟨gr,0,none⟩)],.func (.func 87) #[] #[.pointer (some ⟨gr,0,none⟩)]] (fun _=>by kernel_rfl) fun g10 v11 nb=>?_
 have hb13:=nb.bk
 have ge14:w.heap.size≤g10:=by rw [←nb.at_];exact hw2.size
 have q15:gr<g10:=by rw [←nb.at_];exact hb8.lt
 have e12:=nb.ext
 clear nb
 have hw3:=hw2.trans e12
 refine pf g1 0 rfl (by kernel_rfl) (pf g1 1 rfl (by kernel_rfl) ?_)
 have hb17:=(hb4.ext (e9.trans e12))
 refine wl_stored1 rfl rfl rfl szSides rfl hb17 (bq rfl) rfl [.slice RA n rcap,.slice (some ⟨g10,0,none⟩) 1 1] rfl fun v16 hb18 u19 hs20=>?_
 have hw4:=u19.ext hw3 ge5
 refine ne_ (sr (mv 2 rfl (ne_ (cw_ret (eo_ret [.pointer (some ⟨g1,0,none⟩)] rfl ⟨rfl,trivial⟩ ?_)))))
 exact⟨g1,g10,gr,rfl,⟨ge5,ge14,hger⟩,hb18,(hb13.updN u19 (by omega)),((hb8.ext e12).updN u19 (by omega)),hw4⟩
set_option maxHeartbeats 4000000 in
theorem g_hnf_reduced {a w:World}{lb n cc rcap:Nat}{RA:Option Addr}{ra:Nat→Option Addr}{rc:Nat→Nat}{ps:List Nat}{U X:Mx}{B:Nat}(hL:Lns lb n cc RA rcap ra rc ps U w) (hX:∀i j,i<n→j<cc→X i j=pr U ps i j) (ea:Ext a w) (hab:a.heap.size≤lb) (hlb:lb≤w.heap.size) (hcc:cc≤64) (hn:n≤64) (hS:Szr X n cc B) (hB34:B+1≤17179869184) (hK:200*B+400≤68719476736):
    Calls Tryz.prog 30 #[.slice RA n rcap] w (fun e w'=>∃d Y gl gs gr,e= .returned (.tuple #[.slice RA n rcap,.int .i64 ((d:Nat):Int)])∧Rin X n cc d d Y∧Ldr lb n cc gl gs gr RA rcap ra rc w' Y∧Ext a w'):=by
 refine sx_enter Tryz.func30 rfl (n:=15) rfl (bq rfl) (args:= [.slice RA n rcap]) (cw_keep [(0,.slice RA n rcap)] ⟨rfl,trivial⟩ (sr (mv 2 rfl (ne_ (sr (mv 1 rfl (wl_call rfl rfl (vs:= [.slice RA n rcap]) (by kernel_rfl) (by decide) g_lad_New ?_)))))))
 rintro _ v1 ⟨gl,gs,gr,rfl,⟨h1,h2,h3⟩,b1,b2,b3,e1⟩
 refine ret_intro ?_
 have hw1:Ext a v1:=ea.trans e1
 have hL1:=Ldr.of (hL.ext e1) b1 b2 b3 ⟨by omega,by omega,by omega⟩
 have hL2:=hL1.cong (Y:=X) hX
 refine mv 1 rfl (ne_ (sr (mv 1 rfl (wl_call rfl rfl (vs:= [.pointer (some ⟨gl,0,none⟩)]) (by kernel_rfl) (by decide) (g_ladM_Reduce hL2 (Nat.le_trans hlb e1.size) hcc hn hS hB34 hK) ?_))))
 rintro _ v2 ⟨d,Y,rfl,hR,hL3,u2⟩
 refine ret_intro ?_
 have hw2:Ext a v2:=u2.toExt hw1 fun k hk=>Nat.le_trans hab (hL2.lt hk).1
 refine mv 1 rfl (ne_ (sr (mv 1 rfl (pf gl 0 rfl (by kernel_rfl) (pf gl 0 rfl (by kernel_rfl) (wl_load rfl rfl (load_cell cellRows hL3.bl rfl) (by decide) (mv 3 rfl (ne_ (cw_ret (eo_ret [.slice RA n rcap,.int .i64 ((d:Nat):Int)] rfl ⟨rfl,rfl,trivial⟩ ?_))))))))))
 exact⟨d,Y,gl,gs,gr,rfl,hR,hL3,hw2⟩
theorem Rin.entB {A Z:Mx}{n c d B:Nat}(h:Rin A n c d d Z) (hS:Szr A n c B){i j:Nat}(hi:i<n) (hj:j<c):ln (Z i j)≤B:=by
 rcases Nat.lt_or_ge i d with e | e
 ·exact hS.red d d Z h i j e hj
 ·rw [h.ze i e hi j hj];exact Nat.zero_le _
set_option maxHeartbeats 4000000 in
set_option maxRecDepth 20000 in
theorem g_hnf_Form {w:World}{b lb:Nat}(hb:b≤w.heap.size) (hlb:lb≤w.heap.size){n cc:Nat}{X:Mx}{B:Nat}{Aa:Option Addr}{na capa:Nat}{xs:List Int}(hxa:ZF w Aa na capa 17179869184 xs) (hna:na=n*cc) (hn:n≤64) (hcc:cc≤64) (hX:En n cc X xs) (hS:Szr X n cc B) (hB34:B+1≤17179869184) (hK:200*B+400≤68719476736):
    Calls Tryz.prog 9 #[.agg #[.int .i64 ((n:Nat):Int),.int .i64 ((cc:Nat):Int),.slice Aa na capa]] w (Gv w (T2 (MQ ((n:Nat):Int) ((cc:Nat):Int) (LQ none 17179869184 b lb (n*cc) (fun zs=>∃d Y,Rin X n cc d d Y∧En n cc Y zs))) (Is (.int .i64 0)))):=by
 have hxa0:=hxa
 obtain⟨msa,hla,hma⟩:=hxa
 have hrc:=ix_64 hn hcc
 refine sx_enter Tryz.func9 rfl (n:=23) rfl (bq rfl) (args:= [.agg #[.int .i64 ((n:Nat):Int),.int .i64 ((cc:Nat):Int),.slice Aa na capa]]) (cw_keep [(0,.agg #[.int .i64 ((n:Nat):Int),.int .i64 ((cc:Nat):Int),.slice Aa na capa])] ⟨rfl,trivial⟩ (sr (bx [.int .i64 ((n:Nat):Int),.int .i64 ((cc:Nat):Int),.slice Aa na capa] (Ext.refl w) rfl rfl rfl fun g1 v2 hb4 ge5 e3 hw1=>(alq [I0,I0,S0] hw1 hb4.lt (fun _=>by kernel_rfl) rfl fun g6 v7 hb9 ge10 q11 e8 hw2=>(mv 1 rfl (ne_ (cw_seq (sr (lo aggMat (hb4.ext e8) [.int .i64 ((n:Nat):Int),.int .i64 ((cc:Nat):Int),.slice Aa na capa] rfl rfl rfl (cl (vs:= [.agg #[.int .i64 ((n:Nat):Int),.int .i64 ((cc:Nat):Int),.slice Aa na capa]]) hw2 (g_mat_Check_yes (snd_mk hn hcc hna)) rfl (by kernel_rfl) fun xr14 v12 r14 e13 hw3=>?_))))))))))
 obtain rfl:=r14
 refine mv 1 rfl (ne_ (sr (mv 1 rfl (wl_cmp rfl rfl rfl false (by decide) (by decide) (ne_ (cw_false rfl (cw_skip (eo_then (sr (lo aggMat (hb4.ext (e8.trans e13)) [.int .i64 ((n:Nat):Int),.int .i64 ((cc:Nat):Int),.slice Aa na capa] rfl rfl rfl ?_))))))))))
 obtain⟨lb9,hlb9⟩:∃l,l=v12.heap.size:=⟨_,rfl⟩
 have hlow:w.heap.size≤lb9:=by rw [hlb9];exact hw3.size
 have hlw:lb9≤v12.heap.size:=by rw [hlb9];exact Nat.le_refl _
 refine wl_call rfl rfl (vs:= [.agg #[.int .i64 ((n:Nat):Int),.int .i64 ((cc:Nat):Int),.slice Aa na capa]]) (by kernel_rfl) (by decide) (g_hnf_lines ((show ZF w _ _ _ _ _ from⟨msa,hla,hma⟩).ext hw3) hn hcc hna hX (by decide)) ?_
 rintro _ v_l ⟨_,rfl,⟨RA,rcap,ra,rc,rfl,hA9,hL9⟩,e_l⟩
 refine ret_intro ?_
 rw [←hlb9] at hL9
 have hw4:=hw3.trans e_l
 refine wl_call rfl rfl (vs:= [.slice RA n rcap]) (by kernel_rfl) (by decide) (g_hnf_reduced hL9 (X:=X) (fun i j hi hj=>(pr_range X i j hi).symm) (a:=v12) e_l (Nat.le_of_eq hlb9.symm) (Nat.le_trans hlw e_l.size) hcc hn hS hB34 hK) ?_
 rintro _ v_r ⟨d,Y,gl,gs,gr,rfl,hR,hL8,e_r⟩
 refine ret_intro ?_
 have hwr:Ext w v_r:=hw3.trans e_r
 have hw4r:=hwr
 obtain⟨ps7,Y7,hL7,hY7⟩:=hL8.lns (fun i j hi hj=>Nat.le_trans (hR.entB hS hi hj) (by omega))
 refine mv 1 rfl (pu (v:= .slice RA n rcap) rfl (by kernel_rfl) (pu (v:= .int .i64 ((d:Nat):Int)) rfl (by kernel_rfl) (mv 2 rfl (ne_ (sr (mv 1 rfl (pf g1 1 rfl (by kernel_rfl) (wl_load rfl rfl (load_cell cellInt (hb4.ext (e8.trans (e13.trans e_r))) rfl) (by decide) ?_))))))))
 obtain⟨lb15,hlb15,hlelb15,hgl15,hq15_0,hq15_1⟩:∃lb,lb≤v_r.heap.size∧v_r.heap.size≤lb∧w.heap.size≤lb∧g1<lb∧g6<lb:=⟨v_r.heap.size,Nat.le_refl _,Nat.le_refl _,hwr.size,(hb4.ext (e8.trans (e13.trans e_r))).lt,(hb9.ext (e13.trans e_r)).lt⟩
 refine cl (vs:= [.slice RA n rcap,.int .i64 ((cc:Nat):Int)]) hwr ((g_hnf_matrix hwr.size hlb15 hL7 hn hcc (fun a b ha hb=>by rw [hY7 a b ha hb];exact Nat.le_trans (hR.entB hS ha hb) (by omega))).mono (Gv.imp (MQ.imp (LQ.imp (q:=fun zs=>∃d Y,Rin X n cc d d Y∧En n cc Y zs) (K':=17179869184) (Nat.le_refl _) (Nat.le_refl _) (Nat.le_refl _) (fun _ h=>⟨d,Y,hR,En.cong (fun a b ha hb=>(hY7 a b ha hb)) _ h⟩))))) rfl (by kernel_rfl) fun xr18 v16 r18 e17 hw5=>?_
 obtain⟨lv19,rfl,⟨LA20,lc20,zs20,rfl,lz20,hz20⟩⟩:=r18
 have blk21:=lz20.block
 have hb23:=(hb9.ext (e13.trans (e_r.trans e17)))
 refine so aggMat hb23 [.int .i64 ((n:Nat):Int),.int .i64 ((cc:Nat):Int),.slice LA20 (n*cc) lc20] hw5 ge10 rfl rfl rfl rfl fun v22 hb24 u25 hw6=>(mv 1 rfl (ne_ (cw_ret (eo_ret [.agg #[.int .i64 ((n:Nat):Int),.int .i64 ((cc:Nat):Int),.slice LA20 (n*cc) lc20],I0] rfl ⟨⟨_,rfl,load_agg aggMat hb24 [.int .i64 ((n:Nat):Int),.int .i64 ((cc:Nat):Int),.slice LA20 (n*cc) lc20] rfl (bq rfl) rfl⟩,rfl,trivial⟩ ?_))))
 exact⟨_,rfl,⟨_,_,rfl,⟨_,rfl,⟨_,_,_,rfl,((lz20.updT hb23 u25 (show∀p:Addr,LA20=some p→p.block≠g6 from fun p hp=>by have:=blk21 p hp;omega))).mono (Nat.le_refl _) hb (Nat.le_trans hlb hgl15),hz20⟩⟩,rfl⟩,hw6⟩
section
variable {A A' Y Y':Mx}{n c d d' B:Nat}
theorem Rin.eqv0 (h:Rin A n c d d Y):Eqv d n c Y A:=by have:=h.eqv;rwa [Nat.sub_self,Nat.sub_zero] at this
theorem Eqv.zeros (hd:d≤n) (h0:∀i,d≤i→i<n→∀b,b<c→Y i b=0):Eqv n d c Y Y:=
 ⟨fun i hi=>by
  rcases Nat.lt_or_ge i d with h | h
  ·exact Spn.row h
  ·exact Spn.zero.congr fun b hb=>h0 i h hi b hb,fun i hi=>Spn.row (by omega)⟩
theorem Rin.one (h:Rin A n c d d Y) (h':Rin A' n c d' d' Y') (e:Eqv n n c A' A):∀i j,i<n→j<c→Y i j=Y' i j:=fun i j hi hj=>by
 obtain⟨e1,e2⟩:=h.hf.uniq h'.hf ((h.eqv0.trans e.symm).trans h'.eqv0.symm)
 rcases Nat.lt_or_ge i d with h1 | h1
 ·exact e2 i h1 j hj
 ·rw [h.ze i h1 hi j hj,h'.ze i (by omega) hi j hj]
theorem Rin.self (h:Rin A n c d d Y):Eqv n n c Y A:=(Eqv.zeros h.eN h.ze).trans h.eqv0
theorem Rin.szr (h:Rin A n c d d Y) (hS:Szr A n c B):Szr Y n c B:=
 szr_H h.eN h.hf h.ze fun i b hi hb=>by
  rcases Nat.lt_or_ge i d with h1 | h1
  ·exact hS.red d d Y h i b h1 hb
  ·rw [h.ze i h1 hi b hb];exact Nat.zero_le _
end
theorem stp_eqv {n c:Nat}{s:Stp}(h:s.fit n) (A:Mx):Eqv n n c (stp s A) A:=by
 obtain⟨k,i,j,f⟩:=s
 rcases h with⟨hk,hi,hj⟩ | ⟨hk,hi⟩ | ⟨hk,hi,hj,hne⟩
 ·simp only at hk;subst hk
  obtain⟨a,rfl,ha⟩:=insd_nat hi
  obtain⟨b,rfl,hb⟩:=insd_nat hj
  refine perm_eqv (fun r=>if r=b then a else if r=a then b else r) (fun r=>if r=b then a else if r=a then b else r) (fun r hr=>?_) (fun r hr=>?_) (fun r hr=>?_) (fun r hr=>?_)
  ·split
   ·exact ha
   ·split
    ·exact hb
    ·exact hr
  ·split
   ·exact ha
   ·split
    ·exact hb
    ·exact hr
  ·funext q
   unfold stp
   simp only [if_true,Int.toNat_natCast]
   split
   ·rfl
   ·split <;> rfl
  ·funext q
   unfold stp
   simp only [if_true,Int.toNat_natCast]
   by_cases e1:r=b
   ·rw [if_pos e1]
    by_cases e2:a=b
    ·rw [if_pos e2,e1,e2]
    ·rw [if_neg e2,if_pos rfl,e1]
   ·rw [if_neg e1]
    by_cases e2:r=a
    ·rw [if_pos e2,if_pos rfl,e2]
    ·rw [if_neg e2,if_neg e1,if_neg e2]
 ·simp only at hk;subst hk
  obtain⟨a,rfl,ha⟩:=insd_nat hi
  refine (Eqv.same fun r _ b _=>?_:Eqv n n c _ (tnR a A)).trans (tnR_eqv ha)
  unfold stp tnR
  simp only [Int.toNat_natCast,if_true,show¬((2:Int)=1) by decide,if_false]
  split
  ·rename_i e;rw [e]
  ·rfl
 ·simp only at hk;subst hk
  obtain⟨a,rfl,ha⟩:=insd_nat hi
  obtain⟨b,rfl,hb⟩:=insd_nat hj
  have hab:a≠b:=fun e=>hne (by simp only [e])
  refine (Eqv.same fun r _ q _=>?_:Eqv n n c _ (adR a b f A)).trans (adR_eqv ha hb hab f)
  unfold stp adR
  simp only [Int.toNat_natCast,show¬((3:Int)=1) by decide,show¬((3:Int)=2) by decide,if_false]
  split
  ·rename_i e;rw [e,Int.add_comm]
  ·rfl
theorem stps_eqv {n c:Nat}:∀(l:List Stp) (A:Mx),(∀s∈l,s.fit n)→Eqv n n c (stps l A) A
 | [],A,_=>Eqv.refl n c A
 | s::l,A,h=>(stps_eqv l (stp s A) fun x hx=>h x (by simp [hx])).trans (stp_eqv (h s (by simp)) A)
def mTwo:Mx:=fun i j=>if i=0 then (if j=0 then 2 else 4) else if j=0 then 6 else 8
def mTwoH:Mx:=fun i j=>if i=0 then (if j=0 then 2 else 0) else if j=0 then 0 else 4
theorem two_hf : Hf 2 2 mTwoH := by
  have h0 : ldr 2 (mTwoH 0) = 0 := ldr_eq (fun j h => absurd h (Nat.not_lt_zero j)) (by decide) (by decide)
  have h1 : ldr 2 (mTwoH 1) = 1 := ldr_eq (fun j h => by obtain rfl : j = 0 := by omega
                                                         rfl) (by decide) (by decide)
  have hc : ∀ i, i < 2 → i = 0 ∨ i = 1 := fun i h => by omega
  refine ⟨⟨fun i hi => ?_, fun i k hik hk => ?_, fun i hi => ?_⟩, fun i k hik hk => ?_⟩
  · rcases hc i hi with rfl | rfl
    · rw [h0]; decide
    · rw [h1]; decide
  · obtain rfl : i = 0 := by omega
    obtain rfl : k = 1 := by omega
    rw [h0, h1]; decide
  · rcases hc i hi with rfl | rfl
    · rw [h0]; decide
    · rw [h1]; decide
  · obtain rfl : i = 0 := by omega
    obtain rfl : k = 1 := by omega
    rw [h1]; decide
theorem two_eqv:Eqv 2 2 2 mTwoH mTwo:=by
 have hc:∀i,i<2→i=0∨i=1:=fun i h=>by omega
 refine⟨fun i hi=>?_,fun i hi=>?_⟩
 ·rcases hc i hi with rfl | rfl
  ·exact⟨fun k=>if k=0 then-2 else 1,fun j hj=>by rcases hc j hj with rfl | rfl <;> decide⟩
  ·exact⟨fun k=>if k=0 then 3 else-1,fun j hj=>by rcases hc j hj with rfl | rfl <;> decide⟩
 ·rcases hc i hi with rfl | rfl
  ·exact⟨fun k=>if k=0 then 1 else 1,fun j hj=>by rcases hc j hj with rfl | rfl <;> decide⟩
  ·exact⟨fun k=>if k=0 then 3 else 2,fun j hj=>by rcases hc j hj with rfl | rfl <;> decide⟩
theorem two_form {A Y:Mx}{d:Nat}(hA:∀i j,i<2→j<2→A i j=mTwo i j) (h:Rin A 2 2 d d Y):∀i j,i<2→j<2→Y i j=mTwoH i j:=fun i j hi hj=>by
 have e1:Eqv 2 2 2 A mTwo:=Eqv.same fun i hi b hb=>hA i b hi hb
 obtain⟨e2,e3⟩:=h.hf.uniq two_hf ((h.eqv0.trans e1).trans two_eqv.symm)
 exact e3 i (by omega) j hj
theorem en_two:En 2 2 mTwo [2,4,6,8]:=fun i j hi hj=>by
 have hc:∀i,i<2→i=0∨i=1:=fun i h=>by omega
 rcases hc i hi with rfl | rfl <;> rcases hc j hj with rfl | rfl <;> rfl
theorem szr_two:Szr mTwo 2 2 136323396:=szr_A (by decide) fun i b hi hb=>by
 have hc:∀i,i<2→i=0∨i=1:=fun i h=>by omega
 rcases hc i hi with rfl | rfl <;> rcases hc b hb with rfl | rfl <;> exact Nat.le_trans (ln_w1 (by decide) (by decide)) (by decide)
theorem two_list {zs:List Int}(h:∃d Y,Rin mTwo 2 2 d d Y∧En 2 2 Y zs):∀i,i<2*2→zs.getD i 0= [((2:Nat):Int),0,0,((4:Nat):Int)].getD i 0:=fun i hi=>by
 obtain⟨d,Y,hR,hE⟩:=h
 have hf:=two_form (fun _ _ _ _=>rfl) hR
 have hc:i=0*2+0∨i=0*2+1∨i=1*2+0∨i=1*2+1:=by omega
 rcases hc with rfl | rfl | rfl | rfl <;> rw [hE _ _ (by decide) (by decide),hf _ _ (by decide) (by decide)] <;> rfl
theorem en_same {r c:Nat}{f g:Mx}{zs ys:List Int}(h:En r c f zs) (k:En r c g ys) (e:∀i j,i<r→j<c→f i j=g i j):∀i,i<r*c→zs.getD i 0=ys.getD i 0:=fun i hi=>by
 have hc:0<c:=Nat.pos_of_ne_zero fun q=>by subst q;omega
 have hr:i/c<r:=Nat.div_lt_of_lt_mul (by rw [Nat.mul_comm];exact hi)
 have h1:=h (i/c) (i%c) hr (Nat.mod_lt _ hc)
 have h2:=k (i/c) (i%c) hr (Nat.mod_lt _ hc)
 rw [Nat.mul_comm (i/c),Nat.div_add_mod] at h1 h2
 rw [h1,h2,e _ _ hr (Nat.mod_lt _ hc)]
set_option maxHeartbeats 4000000 in
set_option maxRecDepth 20000 in
theorem g_stp_Rows_bad {w:World}{R C:Int}{Aa:Option Addr}{na capa:Nat}{xs:List Int}(hxa:ZF w Aa na capa 1048576 xs) (hs:¬Snd R C na){As:Option Addr}{m caps:Nat}:
    Calls Tryz.prog 6 #[.agg #[.int .i64 R,.int .i64 C,.slice Aa na capa],.slice As m caps] w (Gv w (T2 (Is (.agg #[.int .i64 0,.int .i64 0,.slice none 0 0])) (Is (.int .i64 1)))):=by
 obtain⟨msa,hla,hma⟩:=hxa
 refine sx_enter Tryz.func6 rfl (n:=46) rfl (bq rfl) (args:= [.agg #[.int .i64 R,.int .i64 C,.slice Aa na capa],.slice As m caps]) (cw_keep [(0,.agg #[.int .i64 R,.int .i64 C,.slice Aa na capa]),(1,.slice As m caps)] ⟨rfl,rfl,trivial⟩ (sr (bx [.int .i64 R,.int .i64 C,.slice Aa na capa] (Ext.refl w) rfl rfl rfl fun g1 v2 hb4 ge5 e3 hw1=>(alq [I0,I0,S0] hw1 hb4.lt (fun _=>by kernel_rfl) rfl fun g6 v7 hb9 ge10 q11 e8 hw2=>(mv 1 rfl (ne_ (cw_seq (sr (lo aggMat (hb4.ext e8) [.int .i64 R,.int .i64 C,.slice Aa na capa] rfl rfl rfl (cl (vs:= [.agg #[.int .i64 R,.int .i64 C,.slice Aa na capa]]) hw2 (g_mat_Check_no hs) rfl (by kernel_rfl) fun xr14 v12 r14 e13 hw3=>?_))))))))))
 obtain rfl:=r14
 refine mv 1 rfl (ne_ (sr (mv 1 rfl (wl_cmp rfl rfl rfl true (by decide) (by decide) (ne_ (cw_true rfl (sr (pu (v:= .agg #[I0,I0,S0]) rfl (by kernel_rfl) (mv 1 rfl ?_)))))))))
 have hb16:=(hb9.ext e13)
 refine so aggMat hb16 [I0,I0,S0] hw3 ge10 rfl rfl rfl rfl fun v15 hb17 u18 hw4=>(mv 1 rfl (ne_ (cw_ret (eo_thenR (eo_ret [.agg #[I0,I0,S0],.int .i64 1] rfl ⟨⟨_,rfl,load_agg aggMat hb17 [I0,I0,S0] rfl (bq rfl) rfl⟩,rfl,trivial⟩ ?_)))))
 exact⟨_,rfl,⟨_,_,rfl,rfl,rfl⟩,hw4⟩
set_option maxHeartbeats 4000000 in
set_option maxRecDepth 20000 in
theorem g_stp_Rows_no {w:World}{n cc:Nat}{Aa:Option Addr}{na capa:Nat}{xs:List Int}(hxa:ZF w Aa na capa 1048576 xs) (hna:na=n*cc) (hn:n≤64) (hcc:cc≤64){As:Option Addr}{m caps:Nat}{ss:List Stp}{ms:List Nat}(hS:Sl w As m ss ms) (hM:∀i,ms.getD i 0≤1048576) (hm:m≤1048576) (hall:¬(∀i,i<m→(ss.getD i Stp.z).fit n)):
    Calls Tryz.prog 6 #[.agg #[.int .i64 ((n:Nat):Int),.int .i64 ((cc:Nat):Int),.slice Aa na capa],.slice As m caps] w (Gv w (T2 (Is (.agg #[.int .i64 0,.int .i64 0,.slice none 0 0])) (Is (.int .i64 3)))):=by
 obtain⟨msa,hla,hma⟩:=hxa
 refine sx_enter Tryz.func6 rfl (n:=46) rfl (bq rfl) (args:= [.agg #[.int .i64 ((n:Nat):Int),.int .i64 ((cc:Nat):Int),.slice Aa na capa],.slice As m caps]) (cw_keep [(0,.agg #[.int .i64 ((n:Nat):Int),.int .i64 ((cc:Nat):Int),.slice Aa na capa]),(1,.slice As m caps)] ⟨rfl,rfl,trivial⟩ (sr (bx [.int .i64 ((n:Nat):Int),.int .i64 ((cc:Nat):Int),.slice Aa na capa] (Ext.refl w) rfl rfl rfl fun g1 v2 hb4 ge5 e3 hw1=>(alq [I0,I0,S0] hw1 hb4.lt (fun _=>by kernel_rfl) rfl fun g6 v7 hb9 ge10 q11 e8 hw2=>(mv 1 rfl (ne_ (cw_seq (sr (lo aggMat (hb4.ext e8) [.int .i64 ((n:Nat):Int),.int .i64 ((cc:Nat):Int),.slice Aa na capa] rfl rfl rfl (cl (vs:= [.agg #[.int .i64 ((n:Nat):Int),.int .i64 ((cc:Nat):Int),.slice Aa na capa]]) hw2 (g_mat_Check_yes (snd_mk hn hcc hna)) rfl (by kernel_rfl) fun xr14 v12 r14 e13 hw3=>?_))))))))))
 obtain rfl:=r14
 refine mv 1 rfl (ne_ (sr (mv 1 rfl (wl_cmp rfl rfl rfl false (by decide) (by decide) (ne_ (cw_false rfl (cw_skip (eo_then (cw_seq (sr (pf g1 0 rfl (by kernel_rfl) (wl_load rfl rfl (load_cell cellInt (hb4.ext (e8.trans e13)) rfl) (by decide) (mv 1 rfl ?_)))))))))))))
 refine cl (vs:= [.int .i64 ((n:Nat):Int),.slice As m caps]) hw3 (g_stp_Check_no hn (hS.ext hw3) hM hm hall) rfl (by kernel_rfl) fun xr17 v15 r17 e16 hw4=>?_
 obtain⟨_,_,rfl,⟨q19,rfl⟩,rfl⟩:=r17
 refine mv 1 rfl (pu (v:= .int .i64 q19) rfl (by kernel_rfl) (pu (v:= .int .i64 3) rfl (by kernel_rfl) (mv 2 rfl (ne_ (sr (mv 1 rfl (wl_cmp rfl rfl rfl true (by decide) (by decide) (ne_ (cw_true rfl (sr (pu (v:= .agg #[I0,I0,S0]) rfl (by kernel_rfl) (mv 1 rfl ?_))))))))))))
 have hb21:=(hb9.ext (e13.trans e16))
 refine so aggMat hb21 [I0,I0,S0] hw4 ge10 rfl rfl rfl rfl fun v20 hb22 u23 hw5=>(mv 1 rfl (ne_ (cw_ret (eo_thenR (eo_ret [.agg #[I0,I0,S0],.int .i64 3] rfl ⟨⟨_,rfl,load_agg aggMat hb22 [I0,I0,S0] rfl (bq rfl) rfl⟩,rfl,trivial⟩ ?_)))))
 exact⟨_,rfl,⟨_,_,rfl,rfl,rfl⟩,hw5⟩
set_option maxHeartbeats 4000000 in
set_option maxRecDepth 20000 in
theorem g_top_sameRow {w:World}{n:Nat}{Kp bp lbp cp:Nat}{Ap:Option Addr}{zsp:List Int}(hlp:Lz none Kp bp w lbp Ap n cp zsp) (hlbp:lbp≤w.heap.size){Kt bt lbt ct:Nat}{At:Option Addr}{zst:List Int}(hlt:Lz none Kt bt w lbt At n ct zst) (hlbt:lbt≤w.heap.size) (hn:n≤1048576) (he:∀i,i<n→zsp.getD i 0=zst.getD i 0):
    Calls Tryz.prog 33 #[.slice Ap n cp,.slice At n ct] w (Gv w (Is (.bool true))):=by
 refine sx_enter Tryz.func33 rfl (n:=27) rfl (bq rfl) (args:= [.slice Ap n cp,.slice At n ct]) ?_
 have blk1:=hlp.block
 have blk2:=hlt.block
 refine cw_keep [(0,.slice Ap n cp),(1,.slice At n ct)] ⟨rfl,rfl,trivial⟩ (sr (mv 1 rfl (ne_ (cw_seq (sr (mv 1 rfl (pu (v:= .int .i64 ((n:Nat):Int)) rfl (by kernel_rfl) (mv 1 rfl (pu (v:= .int .i64 ((n:Nat):Int)) rfl (by kernel_rfl) (wl_cmp rfl rfl rfl false (cb_ne_f (a:=n) (b:=n) rfl rfl (by omega)) (by decide) (ne_ (cw_false rfl (cw_skip ?_)))))))))))))
 refine eo_then (cw_seq (sr (mv 1 rfl (ne_ (cw_block ?_)))))
 refine cw_loop (T:=World×Nat) (fun⟨wr,i⟩=> [(0,.slice Ap n cp),(1,.slice At n ct),(4,.bool false),(5,.int .i64 ((i:Nat):Int)),(6,.slice Ap n cp),(7,.int .i64 ((n:Nat):Int)),(8,.slice At n ct),(9,.int .i64 ((n:Nat):Int)),(10,.bool false)]) (fun⟨wr,i⟩=>wr) (fun⟨wr,i⟩=>(Ext w wr)∧(i≤n)∧(lbp≤wr.heap.size)∧(Lz none Kp bp wr lbp Ap n cp zsp)∧(lbt≤wr.heap.size)∧(Lz none Kt bt wr lbt At n ct zst)) (fun⟨wr,i⟩=>n-i)
  (⟨w,0⟩:World×Nat) ⟨(Ext.refl w),(by omega),hlbp,hlp,hlbt,hlt⟩ rfl ⟨rfl,rfl,rfl,rfl,rfl,rfl,rfl,rfl,rfl,trivial⟩ ?_
 rintro⟨wr,i⟩ ⟨hw1,hi_i,l_Apb,l_Ap,l_Atb,l_At⟩
 refine cw_re [(0,.slice Ap n cp),(1,.slice At n ct),(4,.bool false),(5,.int .i64 ((i:Nat):Int)),(6,.slice Ap n cp),(7,.int .i64 ((n:Nat):Int)),(8,.slice At n ct),(9,.int .i64 ((n:Nat):Int)),(10,.bool false)] wr rfl ⟨rfl,rfl,rfl,rfl,rfl,rfl,rfl,rfl,rfl,trivial⟩ ?_
 have blk3:=l_Ap.block
 have blk4:=l_At.block
 refine cw_seq (cw_seq ?_)
 by_cases hin:i<n
 · 
  refine cw_region (mv 2 rfl (pu (v:= .int .i64 ((n:Nat):Int)) rfl (by kernel_rfl) (wl_cmp rfl rfl rfl true (cb_lt_t (a:=i) (b:=n) rfl rfl (by omega)) (by decide) (ne_ (cw_true rfl (cw_skip (eo_then (cw_seq (cw_block (cw_seq ?_))))))))))
  obtain⟨pz5,sz5,Bz5,nz5,cz5,hpz5,ldz5,hKz5,ez5⟩:=(l_Ap).at (i:=i) (by omega)
  have zz5:=ez5.zr
  have Lz5:ln (zsp.getD i 0)≤Kp:=zz5.ln_le hKz5
  obtain⟨pz6,sz6,Bz6,nz6,cz6,hpz6,ldz6,hKz6,ez6⟩:=(l_At).at (i:=i) (by omega)
  have zz6:=ez6.zr
  have Lz6:ln (zst.getD i 0)≤Kt:=zz6.ln_le hKz6
  refine cw_draw mix 10 [] [Is (.slice Ap n cp),Is (.int .i64 ((i:Nat):Int)),Is (.pointer (some pz5)),Is (.agg #[.bool sz5,.slice Bz5 nz5 cz5]),Is (.slice At n ct),Is (.int .i64 ((i:Nat):Int)),Is (.pointer (some pz6)),Is (.agg #[.bool sz6,.slice Bz6 nz6 cz6]),Is (.bool true),Is (.bool false)] [[],[],[0,1],[2],[],[],[4,5],[6],[3,7],[8]] [[],[],[0,1],[0,1,2],[],[],[4,5],[4,5,6],[0,1,2,3,4,5,6,7],[0,1,2,3,4,5,6,7,8]] rfl
   (obs_cons rfl rfl (hob rfl rfl ?_) (obs_cons rfl rfl (hob rfl rfl ?_) (obs_cons rfl rfl (hob rfl rfl ?_) (obs_cons rfl rfl (hob rfl rfl ?_) (obs_cons rfl rfl (hob rfl rfl ?_) (obs_cons rfl rfl (hob rfl rfl ?_) (obs_cons rfl rfl (hob rfl rfl ?_) (obs_cons rfl rfl (hob rfl rfl ?_) (obs_cons rfl rfl (hob rfl rfl ?_) (obs_cons rfl rfl (hob rfl rfl ?_) obs_nil)))))))))) ?_
  · 
   exact fun _ _=>deps_nil (mv 1 rfl (pi_done rfl (Ext.refl _) rfl))
  · 
   exact fun _ _=>deps_nil (mv 1 rfl (pi_done rfl (Ext.refl _) rfl))
  · 
   exact fun _ _=>dk rfl rfl (dk rfl rfl (deps_nil (wl_idx rfl rfl rfl elemI aggInt.size i rfl (by omega) pz5 hpz5 (by decide) (pi_done rfl (Ext.refl _) rfl))))
  · 
   exact fun _ e24=>dk rfl rfl (deps_nil (wl_load rfl rfl (ldz5 _ e24 _ _ aggInt) (by decide) (pi_done rfl (Ext.refl _) rfl)))
  · 
   exact fun _ _=>deps_nil (mv 1 rfl (pi_done rfl (Ext.refl _) rfl))
  · 
   exact fun _ _=>deps_nil (mv 1 rfl (pi_done rfl (Ext.refl _) rfl))
  · 
   exact fun _ _=>dk rfl rfl (dk rfl rfl (deps_nil (wl_idx rfl rfl rfl elemI aggInt.size i rfl (by omega) pz6 hpz6 (by decide) (pi_done rfl (Ext.refl _) rfl))))
  · 
   exact fun _ e47=>dk rfl rfl (deps_nil (wl_load rfl rfl (ldz6 _ e47 _ _ aggInt) (by decide) (pi_done rfl (Ext.refl _) rfl)))
  · 
   intro v53 e54
   have hw2:=hw1.trans e54
   refine dk rfl rfl (dk rfl rfl (deps_nil (cl (vs:= [.agg #[.bool sz5,.slice Bz5 nz5 cz5],.agg #[.bool sz6,.slice Bz6 nz6 cz6]]) hw2 (g_top_sameInt (zz5.ext e54) (((zz6.ext e54)).cast (he i hin).symm)) rfl (by kernel_rfl) fun xr67 v65 r67 e66 hw3=>?_)))
   obtain rfl:=r67
   exact pi_done rfl e66 rfl
  · 
   exact fun _ _=>dk rfl rfl (deps_nil (pu (v:= .bool false) rfl (by kernel_rfl) (pi_done rfl (Ext.refl _) rfl)))
  · 
   intro v75 e76
   have hw2:=hw1.trans e76
   refine dk rfl rfl (dk rfl rfl (dk rfl rfl (dk rfl rfl (dk rfl rfl (dk rfl rfl (dk rfl rfl (dk rfl rfl (dk rfl rfl (dk rfl rfl (deps_nil (wl_nil (eo_np (eo_then ?_)))))))))))))
   refine cw_false rfl (cw_skip (eo_block_normal (eo_then (cw_region (mv 1 rfl (wl_ar rfl rfl rfl ((i+1:Nat):Int) (ai_add (a:=i) (b:=1) rfl rfl (by omega)) (by decide) (mv 1 rfl (wl_nil (eo_round (⟨v75,i+1⟩:World×Nat) ⟨hw2,(by omega),(Nat.le_trans l_Apb e76.size),(l_Ap.ext e76),(Nat.le_trans l_Atb e76.size),(l_At.ext e76)⟩ (show n-(i+1)<n-i by omega) rfl ⟨rfl,rfl,rfl,rfl,rfl,rfl,rfl,rfl,rfl,trivial⟩)))))))))
 · 
  refine cw_region (mv 2 rfl (pu (v:= .int .i64 ((n:Nat):Int)) rfl (by kernel_rfl) (wl_cmp rfl rfl rfl false (cb_lt_f (a:=i) (b:=n) rfl rfl (by omega)) (by decide) (ne_ (cw_false rfl (cw_exit (eo_thenX (eo_loopX (eo_block_here (eo_then (sr (mv 1 rfl (wl_nil ?_)))))))))))))
  refine eo_then (cw_ret (eo_ret [.bool true] rfl ⟨rfl,trivial⟩ ?_))
  exact⟨_,rfl,rfl,hw1⟩
set_option maxHeartbeats 4000000 in
set_option maxRecDepth 20000 in
theorem g_top_same {w:World}{r c:Nat}{Kp bp lbp cp:Nat}{Ap:Option Addr}{zsp:List Int}(hlp:Lz none Kp bp w lbp Ap (r*c) cp zsp) (hlbp:lbp≤w.heap.size){Kt bt lbt ct:Nat}{At:Option Addr}{zst:List Int}(hlt:Lz none Kt bt w lbt At (r*c) ct zst) (hlbt:lbt≤w.heap.size) (hr:r≤64) (hc:c≤64) (he:∀i,i<r*c→zsp.getD i 0=zst.getD i 0):
    Calls Tryz.prog 10 #[.agg #[.int .i64 ((r:Nat):Int),.int .i64 ((c:Nat):Int),.slice Ap (r*c) cp],.agg #[.int .i64 ((r:Nat):Int),.int .i64 ((c:Nat):Int),.slice At (r*c) ct]] w (Gv w (Is (.bool true))):=by
 have hnn:=ix_64 hr hc
 refine sx_enter Tryz.func10 rfl (n:=28) rfl (bq rfl) (args:= [.agg #[.int .i64 ((r:Nat):Int),.int .i64 ((c:Nat):Int),.slice Ap (r*c) cp],.agg #[.int .i64 ((r:Nat):Int),.int .i64 ((c:Nat):Int),.slice At (r*c) ct]]) ?_
 have blk1:=hlp.block
 have blk2:=hlt.block
 refine cw_keep [(0,.agg #[.int .i64 ((r:Nat):Int),.int .i64 ((c:Nat):Int),.slice Ap (r*c) cp]),(1,.agg #[.int .i64 ((r:Nat):Int),.int .i64 ((c:Nat):Int),.slice At (r*c) ct])] ⟨rfl,rfl,trivial⟩ (sr (wl_box rfl rfl (vs:= [.int .i64 ((r:Nat):Int),.int .i64 ((c:Nat):Int),.slice Ap (r*c) cp]) rfl (by decide) fun g3 v4 nb=>?_))
 have hb6:=nb.bk
 have ge7:w.heap.size≤g3:=by rw [←nb.at_];exact (Ext.refl w).size
 have ne8:∀p:Addr,Ap=some p→p.block≠g3:=fun p hp=>by have:=(hlp).block p hp;have:=nb.at_;omega
 have ne9:∀p:Addr,At=some p→p.block≠g3:=fun p hp=>by have:=(hlt).block p hp;have:=nb.at_;omega
 have e5:=nb.ext
 clear nb
 have hw1:=(Ext.refl w).trans e5
 refine wl_box rfl rfl (vs:= [.int .i64 ((r:Nat):Int),.int .i64 ((c:Nat):Int),.slice At (r*c) ct]) rfl (by decide) fun g10 v11 nb=>?_
 have hb13:=nb.bk
 have ge14:w.heap.size≤g10:=by rw [←nb.at_];exact hw1.size
 have q15:g3<g10:=by rw [←nb.at_];exact hb6.lt
 have ne16:∀p:Addr,Ap=some p→p.block≠g10:=fun p hp=>by have:=((hlp.ext e5)).block p hp;have:=nb.at_;omega
 have ne17:∀p:Addr,At=some p→p.block≠g10:=fun p hp=>by have:=((hlt.ext e5)).block p hp;have:=nb.at_;omega
 have e12:=nb.ext
 clear nb
 have hw2:=hw1.trans e12
 refine mv 1 rfl (ne_ (sr (lo aggMat (hb6.ext e12) [.int .i64 ((r:Nat):Int),.int .i64 ((c:Nat):Int),.slice Ap (r*c) cp] rfl rfl rfl (cl (vs:= [.agg #[.int .i64 ((r:Nat):Int),.int .i64 ((c:Nat):Int),.slice Ap (r*c) cp]]) hw2 (g_top_sound_t (snd_mk hr hc rfl)) rfl (by kernel_rfl) fun xr20 v18 r20 e19 hw3=>?_))))
 obtain rfl:=r20
 refine mv 1 rfl (pf g3 0 rfl (by kernel_rfl) (wl_load rfl rfl (load_cell cellInt (hb6.ext (e12.trans e19)) rfl) (by decide) (pf g10 0 rfl (by kernel_rfl) (wl_load rfl rfl (load_cell cellInt (hb13.ext e19) rfl) (by decide) (wl_cmp rfl rfl rfl true (cb_eq_t (a:=r) (b:=r) rfl rfl (by omega)) (by decide) (pu (v:= .bool true) rfl (by kernel_rfl) (mv 1 rfl (pf g3 1 rfl (by kernel_rfl) (wl_load rfl rfl (load_cell cellInt (hb6.ext (e12.trans e19)) rfl) (by decide) (pf g10 1 rfl (by kernel_rfl) (wl_load rfl rfl (load_cell cellInt (hb13.ext e19) rfl) (by decide) (wl_cmp rfl rfl rfl true (cb_eq_t (a:=c) (b:=c) rfl rfl (by omega)) (by decide) (pu (v:= .bool true) rfl (by kernel_rfl) ?_)))))))))))))
 refine mv 1 rfl (pf g3 2 rfl (by kernel_rfl) (wl_load rfl rfl (load_cell cellInts (hb6.ext (e12.trans e19)) rfl) (by decide) (pf g10 2 rfl (by kernel_rfl) (wl_load rfl rfl (load_cell cellInts (hb13.ext e19) rfl) (by decide) (cl (vs:= [.slice Ap (r*c) cp,.slice At (r*c) ct]) hw3 (g_top_sameRow (hlp.ext (e5.trans (e12.trans e19))) (Nat.le_trans (Nat.le_trans (Nat.le_trans hlbp e5.size) e12.size) e19.size) (hlt.ext (e5.trans (e12.trans e19))) (Nat.le_trans (Nat.le_trans (Nat.le_trans hlbt e5.size) e12.size) e19.size) (by omega) he) rfl (by kernel_rfl) fun xr23 v21 r23 e22 hw4=>?_)))))
 obtain rfl:=r23
 refine pu (v:= .bool true) rfl (by kernel_rfl) (mv 1 rfl (ne_ (cw_ret (eo_ret [.bool true] rfl ⟨rfl,trivial⟩ ?_))))
 exact⟨_,rfl,rfl,hw4⟩
set_option maxHeartbeats 4000000 in
set_option maxRecDepth 20000 in
theorem g_top_hermiteWakes {w:World}:
    Calls Tryz.prog 5 #[] w (Gv w (Is (.bool true))):=by
 have hlb:w.heap.size≤w.heap.size:=Nat.le_refl _
 refine sx_enter Tryz.func5 rfl (n:=20) rfl (bq rfl) (args:= []) (cw_keep [] trivial (sr (mv 1 rfl (ne_ (sr (cl (vs:= []) (Ext.refl w) (g_top_two (Ext.refl w).size hlb) rfl (by kernel_rfl) fun xr3 v1 r3 e2 hw1=>?_))))))
 obtain⟨lv4,rfl,⟨LA5,lc5,rfl,lz5⟩⟩:=r3
 have blk6:=lz5.block
 obtain⟨lb7,hlb7,hlelb7,hgl7⟩:∃lb,lb≤v1.heap.size∧v1.heap.size≤lb∧w.heap.size≤lb:=⟨v1.heap.size,Nat.le_refl _,Nat.le_refl _,hw1.size⟩
 have hql8:∀p:Addr,LA5=some p→p.block<lb7:=fun p hp=>Nat.lt_of_lt_of_le ((lz5).block p hp).2 hlelb7
 refine cl (vs:= [.agg #[.int .i64 2,.int .i64 2,.slice LA5 4 lc5]]) hw1 (g_hnf_Form (n:=2) (cc:=2) (X:=mTwo) hw1.size hlb7 ((lz5.zf0).mono (by decide)) rfl (by decide) (by decide) en_two szr_two (by decide) (by decide)) rfl (by kernel_rfl) fun xr11 v9 r11 e10 hw2=>?_
 obtain⟨_,_,rfl,⟨lv13,rfl,⟨LA14,lc14,zs14,rfl,lz14,hz14⟩⟩,r12_1⟩:=r11
 have blk15:=lz14.block
 obtain rfl:=r12_1
 refine mv 1 rfl (pu (v:= .agg #[.int .i64 2,.int .i64 2,.slice LA14 (2*2) lc14]) rfl (by kernel_rfl) (pu (v:= .int .i64 0) rfl (by kernel_rfl) (al [I0,I0,S0] hw2 (fun _=>by kernel_rfl) rfl fun g16 v17 hb19 ge20 e18 hw3=>(so aggMat hb19 [.int .i64 2,.int .i64 2,.slice LA14 (2*2) lc14] hw3 ge20 rfl rfl rfl rfl fun v21 hb23 u24 hw4=>(mv 1 rfl (ne_ (cw_seq ?_)))))))
 obtain⟨lb28,hlb28,hlelb28,hgl28,hq28_0⟩:∃lb,lb≤v21.heap.size∧v21.heap.size≤lb∧w.heap.size≤lb∧g16<lb:=⟨v21.heap.size,Nat.le_refl _,Nat.le_refl _,hw4.size,hb23.lt⟩
 have hql29:∀p:Addr,LA5=some p→p.block<lb28:=fun p hp=>Nat.lt_of_lt_of_le ((((lz5.ext (e10.trans e18)).updY hb19 u24)).block p hp).2 hlelb28
 have hql30:∀p:Addr,LA14=some p→p.block<lb28:=fun p hp=>Nat.lt_of_lt_of_le ((((lz14.ext e18).updY hb19 u24)).block p hp).2 hlelb28
 refine cw_draw mix 10 [] [Is (.int .i64 0),Is (.bool true),Is (.bool true),Is (.agg #[.int .i64 2,.int .i64 2,.slice LA14 (2*2) lc14]),ZR w.heap.size (((2:Nat):Int)),Is (.agg #[F0,S0]),Is (.agg #[F0,S0]),ZR w.heap.size (((4:Nat):Int)),LE none 1 w.heap.size lb28 4 ([((2:Nat):Int),0,0,((4:Nat):Int)]),MQ 2 2 (LE none 1 w.heap.size lb28 4 ([((2:Nat):Int),0,0,((4:Nat):Int)]))] [[],[0],[1],[2],[2],[2],[2],[2],[2,4,5,6,7],[2,8]] [[],[0],[0,1],[0,1,2],[0,1,2],[0,1,2],[0,1,2],[0,1,2,4],[0,1,2,4,5,6,7],[0,1,2,4,5,6,7,8],[0,1,2,3,4,5,6,7,8,9],[0,1,2,3,4,5,6,7,8,9,10],[0,1,2,3,4,5,6,7,8,9,10,11]] rfl
  (obs_cons rfl rfl (hob rfl rfl ?_) (obs_cons rfl rfl (hob rfl rfl ?_) (obs_cons rfl rfl (hob rfl rfl ?_) (obs_cons rfl rfl (hob rfl rfl ?_) (obs_cons rfl rfl (hob rfl rfl ?_) (obs_cons rfl rfl (hob rfl rfl ?_) (obs_cons rfl rfl (hob rfl rfl ?_) (obs_cons rfl rfl (hob rfl rfl ?_) (obs_cons rfl rfl (hob rfl rfl ?_) (obs_cons rfl rfl (hob rfl rfl ?_) obs_nil)))))))))) ?_
 · 
  exact fun _ _=>deps_nil (mv 1 rfl (pi_done rfl (Ext.refl _) rfl))
 · 
  exact fun _ _=>dk rfl rfl (deps_nil (wl_cmp rfl rfl rfl true (by decide) (by decide) (pi_done rfl (Ext.refl _) rfl)))
 · 
  exact fun _ _=>dk rfl rfl (deps_nil (mv 1 rfl (pi_done rfl (Ext.refl _) rfl)))
 · 
  exact fun _ e53=>dk rfl rfl (deps_nil (lo aggMat (hb23.ext e53) [.int .i64 2,.int .i64 2,.slice LA14 (2*2) lc14] rfl rfl rfl (pi_done rfl (Ext.refl _) rfl)))
 · 
  intro v59 e60
  have hw5:=hw4.trans e60
  refine dk rfl rfl (deps_nil (cl (vs:= [.int .u64 2]) hw5 ((g_top_word (x:=2) hw5.size (by decide))) rfl (by kernel_rfl) fun xr68 v66 r68 e67 hw6=>?_))
  obtain⟨s69,A69,n69,c69,rfl,z69⟩:=r68
  exact pi_done rfl e67 ⟨_,_,_,_,rfl,z69⟩
 · 
  exact fun _ _=>dk rfl rfl (deps_nil (pu (v:= .agg #[F0,S0]) rfl (by kernel_rfl) (pi_done rfl (Ext.refl _) rfl)))
 · 
  exact fun _ _=>dk rfl rfl (deps_nil (pu (v:= .agg #[F0,S0]) rfl (by kernel_rfl) (pi_done rfl (Ext.refl _) rfl)))
 · 
  intro v84 e85
  have hw5:=hw4.trans e85
  refine dk rfl rfl (deps_nil (cl (vs:= [.int .u64 4]) hw5 ((g_top_word (x:=4) hw5.size (by decide))) rfl (by kernel_rfl) fun xr93 v91 r93 e92 hw6=>?_))
  obtain⟨s94,A94,n94,c94,rfl,z94⟩:=r93
  exact pi_done rfl e92 ⟨_,_,_,_,rfl,z94⟩
 · 
  intro v95 e96
  have hw5:=hw4.trans e96
  refine dk rfl rfl (deps_cons rfl rfl fun x102 y103 h104 e105 f106=>?_)
  obtain⟨s107,A107,n107,c107,rfl,z107⟩:=h104
  have z107:=z107.ext f106
  refine dk rfl rfl (dk rfl rfl (deps_cons rfl rfl fun x118 y119 h120 e121 f122=>?_))
  obtain⟨s123,A123,n123,c123,rfl,z123⟩:=h120
  have z123:=z123.ext f122
  refine deps_nil (wl_bslice rfl rfl (by decide) (k:=4) (e:=41) [.bool s107,.slice A107 n107 c107,F0,S0,F0,S0,.bool s123,.slice A123 n123 c123] (fun _=>by kernel_rfl) fun g124 v125 nb=>?_)
  have ge128:lb28≤g124:=by rw [←nb.at_];exact (Nat.le_trans hlb28 e96.size)
  have hb127:=nb.bk
  have e126:=nb.ext
  clear nb
  have hw6:=hw5.trans e126
  have lz129:=lz4 (K:=1) (b:=w.heap.size) ge128 hb127 (z107.ext e126) ((Zr.zero (w:=v21) (base:=w.heap.size)).ext (e96.trans e126)) ((Zr.zero (w:=v21) (base:=w.heap.size)).ext (e96.trans e126)) (z123.ext e126) (z107.le (Nat.le_trans (show ln ((2:Nat):Int)≤1 from ln_w64 (by decide)) (by decide))) ((Zr.zero (w:=v21) (base:=w.heap.size)).le (Nat.le_trans (by decide:ln 0≤0) (by decide))) ((Zr.zero (w:=v21) (base:=w.heap.size)).le (Nat.le_trans (by decide:ln 0≤0) (by decide))) (z123.le (Nat.le_trans (show ln ((4:Nat):Int)≤1 from ln_w64 (by decide)) (by decide)))
  have blk130:=lz129.block
  exact pi_done rfl e126 ⟨_,_,rfl,lz129⟩
 · 
  intro v131 e132
  refine dk rfl rfl (deps_cons rfl rfl fun x138 y139 h140 e141 f142=>?_)
  obtain⟨LA143,lc143,rfl,lz143⟩:=h140
  have blk144:=lz143.block
  have lz143:=lz143.ext f142
  refine deps_nil (pu (v:= .agg #[.int .i64 2,.int .i64 2,.slice LA143 4 lc143]) rfl (by kernel_rfl) ?_)
  exact pi_done rfl (Ext.refl _) ⟨_,rfl,⟨_,_,rfl,lz143⟩⟩
 · 
  intro v145 e146
  have hw5:=hw4.trans e146
  refine dk rfl rfl (dk rfl rfl (dk rfl rfl (dk rfl rfl (deps_cons rfl rfl fun x167 y168 h169 e170 f171=>?_))))
  obtain⟨s172,A172,n172,c172,rfl,z172⟩:=h169
  have z172:=z172.ext f171
  refine dk rfl rfl (dk rfl rfl (deps_cons rfl rfl fun x183 y184 h185 e186 f187=>?_))
  obtain⟨s188,A188,n188,c188,rfl,z188⟩:=h185
  have z188:=z188.ext f187
  refine deps_cons rfl rfl fun x189 y190 h191 e192 f193=>?_
  obtain⟨LA194,lc194,rfl,lz194⟩:=h191
  have blk195:=lz194.block
  have lz194:=lz194.ext f193
  refine deps_cons rfl rfl fun x196 y197 h198 e199 f200=>?_
  obtain⟨lv201,rfl,⟨LA202,lc202,rfl,lz202⟩⟩:=h198
  have blk203:=lz202.block
  have lz202:=lz202.ext f200
  refine deps_nil (cl (vs:= [.agg #[.int .i64 2,.int .i64 2,.slice LA14 (2*2) lc14],.agg #[.int .i64 2,.int .i64 2,.slice LA202 4 lc202]]) hw5 (g_top_same (r:=2) (c:=2) (((lz14.ext e18).updY hb19 u24).ext e146) (Nat.le_trans (Nat.le_trans (Nat.le_trans (Nat.le_trans hlb7 e10.size) e18.size) u24.by_.size) e146.size) lz202 (Nat.le_trans hlb28 e146.size) (by decide) (by decide) (two_list hz14)) rfl (by kernel_rfl) fun xr206 v204 r206 e205 hw6=>?_)
  obtain rfl:=r206
  refine pu (v:= .bool true) rfl (by kernel_rfl) (mv 1 rfl (wl_nil (eo_np (eo_then (cw_ret (eo_ret [.bool true] rfl ⟨rfl,trivial⟩ ?_))))))
  exact⟨_,rfl,rfl,hw6⟩
theorem hallm {w:World}{A:Option Addr}{m n:Nat}{ss:List Stp}{ms:List Nat}(hS:Sl w A m ss ms) (h:∀i,i<m→(ss.getD i Stp.z).fit n):∀s∈ss,s.fit n:=fun s hs=>by
 obtain⟨i,hi,rfl⟩:=List.getElem_of_mem hs
 have:=h i (by rw [←hS.len];exact hi)
 rwa [List.getD_eq_getElem?_getD,List.getElem?_eq_getElem hi] at this
set_option maxHeartbeats 4000000 in
set_option maxRecDepth 20000 in
theorem g_top_WholeOneHermite_bad {w:World}{R C:Int}{Aa:Option Addr}{na capa:Nat}{xs:List Int}(hxa:ZF w Aa na capa 1048576 xs){As:Option Addr}{m caps:Nat}(hna1:na≤1048576) (hs:¬Snd R C na):
    Calls Tryz.prog 3 #[.agg #[.int .i64 R,.int .i64 C,.slice Aa na capa],.slice As m caps] w (Gv w (Is (.bool true))):=by
 have hlb:w.heap.size≤w.heap.size:=Nat.le_refl _
 have hxa0:=hxa
 obtain⟨msa,hla,hma⟩:=hxa
 refine sx_enter Tryz.func3 rfl (n:=73) rfl (bq rfl) (args:= [.agg #[.int .i64 R,.int .i64 C,.slice Aa na capa],.slice As m caps]) (cw_keep [(0,.agg #[.int .i64 R,.int .i64 C,.slice Aa na capa]),(1,.slice As m caps)] ⟨rfl,rfl,trivial⟩ (sr (bx [.int .i64 R,.int .i64 C,.slice Aa na capa] (Ext.refl w) rfl rfl rfl fun g1 v2 hb4 ge5 e3 hw1=>(mv 1 rfl (ne_ (cw_seq (sr (wl_call rfl rfl (vs:= []) (by kernel_rfl) (by decide) g_top_hermiteWakes ?_))))))))
 rintro _ v6 ⟨xr8,rfl,r8,e7⟩
 refine ret_intro ?_
 have hw2:=hw1.trans e7
 obtain rfl:=r8
 refine pu (v:= .bool false) rfl (by kernel_rfl) (ne_ (cw_false rfl (cw_skip (eo_then (sr (lo aggMat (hb4.ext e7) [.int .i64 R,.int .i64 C,.slice Aa na capa] rfl rfl rfl ?_))))))
 obtain⟨lb9,hlb9,hlelb9,hgl9,hq9_0⟩:∃lb,lb≤v6.heap.size∧v6.heap.size≤lb∧w.heap.size≤lb∧g1<lb:=⟨v6.heap.size,Nat.le_refl _,Nat.le_refl _,hw2.size,(hb4.ext e7).lt⟩
 refine cl (vs:= [.agg #[.int .i64 R,.int .i64 C,.slice Aa na capa]]) hw2 (g_top_copyMat (w0:=w) hw2.size hlb9 hw2 ((show ZF w _ _ _ _ _ from⟨msa,hla,hma⟩).ext hw2) (by omega)) rfl (by kernel_rfl) fun xr12 v10 r12 e11 hw3=>?_
 obtain⟨lv13,rfl,⟨LA14,lc14,rfl,lz14⟩⟩:=r12
 have blk15:=lz14.block
 refine mv 1 rfl (cl (vs:= [.agg #[.int .i64 R,.int .i64 C,.slice LA14 na lc14],.slice As m caps]) hw3 (g_stp_Rows_bad ((lz14).zf hw3) hs) rfl (by kernel_rfl) fun xr18 v16 r18 e17 hw4=>?_)
 obtain⟨_,_,rfl,rfl,rfl⟩:=r18
 refine mv 1 rfl (pu (v:= .agg #[I0,I0,S0]) rfl (by kernel_rfl) (pu (v:= .int .i64 1) rfl (by kernel_rfl) (alq [I0,I0,S0] hw4 (hb4.ext (e7.trans (e11.trans e17))).lt (fun _=>by kernel_rfl) rfl fun g20 v21 hb23 ge24 q25 e22 hw5=>(so aggMat hb23 [I0,I0,S0] hw5 ge24 rfl rfl rfl rfl fun v26 hb28 u29 hw6=>(mv 1 rfl (ne_ (cw_seq (sr (mv 1 rfl (wl_cmp rfl rfl rfl true (by decide) (by decide) (ne_ (cw_true rfl (cw_seq ?_)))))))))))))
 refine cw_region (mv 1 rfl (wl_cmp rfl rfl rfl true (by decide) (by decide) (mv 1 rfl (lo aggMat ((hb4.ext (e7.trans (e11.trans (e17.trans e22)))).updN u29 (by omega)) [.int .i64 R,.int .i64 C,.slice Aa na capa] rfl rfl rfl (cl (vs:= [.agg #[.int .i64 R,.int .i64 C,.slice Aa na capa]]) hw6 (g_top_sound_f hs) rfl (by kernel_rfl) fun xr33 v31 r33 e32 hw7=>?_)))))
 obtain rfl:=r33
 refine pu (v:= .bool true) rfl (by kernel_rfl) (pu (v:= .bool true) rfl (by kernel_rfl) (mv 7 rfl (pu (v:= .bool true) rfl (by kernel_rfl) (mv 1 rfl (ne_ (cw_ret (eo_thenR (eo_ret [.bool true] rfl ⟨rfl,trivial⟩ ?_))))))))
 exact⟨_,rfl,rfl,hw7⟩
set_option maxHeartbeats 4000000 in
set_option maxRecDepth 20000 in
theorem g_top_WholeOneHermite_ok {w:World}{n cc Ka:Nat}{X:Mx}{Aa:Option Addr}{na capa:Nat}{xs:List Int}(hxa:ZF w Aa na capa 1048576 xs){As:Option Addr}{m caps:Nat}{ss:List Stp}{ms:List Nat}(hS:Sl w As m ss ms) (hM:∀i,ms.getD i 0≤1048576) (hm:m≤1048576) (hna1:na≤1048576) (hna:na=n*cc) (hn:n≤64) (hcc:cc≤64) (hX:En n cc X xs) (hXa:∀a b,a<n→b<cc→ln (X a b)≤Ka) (hKa:Ka+(m+ms.sum)≤1048576):
    Calls Tryz.prog 3 #[.agg #[.int .i64 ((n:Nat):Int),.int .i64 ((cc:Nat):Int),.slice Aa na capa],.slice As m caps] w (Gv w (Is (.bool true))):=by
 have hlb:w.heap.size≤w.heap.size:=Nat.le_refl _
 have hxa0:=hxa
 have hs:Snd ((n:Nat):Int) ((cc:Nat):Int) na:=snd_mk hn hcc hna
 obtain⟨msa,hla,hma⟩:=hxa
 refine sx_enter Tryz.func3 rfl (n:=73) rfl (bq rfl) (args:= [.agg #[.int .i64 ((n:Nat):Int),.int .i64 ((cc:Nat):Int),.slice Aa na capa],.slice As m caps]) (cw_keep [(0,.agg #[.int .i64 ((n:Nat):Int),.int .i64 ((cc:Nat):Int),.slice Aa na capa]),(1,.slice As m caps)] ⟨rfl,rfl,trivial⟩ (sr (bx [.int .i64 ((n:Nat):Int),.int .i64 ((cc:Nat):Int),.slice Aa na capa] (Ext.refl w) rfl rfl rfl fun g1 v2 hb4 ge5 e3 hw1=>(mv 1 rfl (ne_ (cw_seq (sr (wl_call rfl rfl (vs:= []) (by kernel_rfl) (by decide) g_top_hermiteWakes ?_))))))))
 rintro _ v6 ⟨xr8,rfl,r8,e7⟩
 refine ret_intro ?_
 have hw2:=hw1.trans e7
 obtain rfl:=r8
 refine pu (v:= .bool false) rfl (by kernel_rfl) (ne_ (cw_false rfl (cw_skip (eo_then (cw_seq ?_)))))
 by_cases hall:∀i,i<m→(ss.getD i Stp.z).fit n
 · 
  refine cw_region (lo aggMat (hb4.ext e7) [.int .i64 ((n:Nat):Int),.int .i64 ((cc:Nat):Int),.slice Aa na capa] rfl rfl rfl ?_)
  obtain⟨lb9,hlb9,hlelb9,hgl9,hq9_0⟩:∃lb,lb≤v6.heap.size∧v6.heap.size≤lb∧w.heap.size≤lb∧g1<lb:=⟨v6.heap.size,Nat.le_refl _,Nat.le_refl _,hw2.size,(hb4.ext e7).lt⟩
  refine cl (vs:= [.agg #[.int .i64 ((n:Nat):Int),.int .i64 ((cc:Nat):Int),.slice Aa na capa]]) hw2 (g_top_copyMat (w0:=w) hw2.size hlb9 hw2 ((show ZF w _ _ _ _ _ from⟨msa,hla,hma⟩).ext hw2) (by omega)) rfl (by kernel_rfl) fun xr12 v10 r12 e11 hw3=>?_
  obtain⟨lv13,rfl,⟨LA14,lc14,rfl,lz14⟩⟩:=r12
  have blk15:=lz14.block
  refine mv 1 rfl (cl (vs:= [.agg #[.int .i64 ((n:Nat):Int),.int .i64 ((cc:Nat):Int),.slice LA14 na lc14],.slice As m caps]) hw3 (g_stp_Rows (X:=X) (Ka:=Ka) hw3.size (Nat.le_trans hlb9 e11.size) ((lz14).zf hw3) hna hn hcc hX (hS.ext hw3) hM hm hall hXa hKa) rfl (by kernel_rfl) fun xr18 v16 r18 e17 hw4=>?_)
  obtain⟨_,_,rfl,⟨lv20,rfl,⟨LA21,lc21,zs21,rfl,lz21,hz21⟩⟩,r19_1⟩:=r18
  have blk22:=lz21.block
  obtain rfl:=r19_1
  refine mv 1 rfl (pu (v:= .agg #[.int .i64 ((n:Nat):Int),.int .i64 ((cc:Nat):Int),.slice LA21 (n*cc) lc21]) rfl (by kernel_rfl) (pu (v:= .int .i64 0) rfl (by kernel_rfl) (alq [I0,I0,S0] hw4 (hb4.ext (e7.trans (e11.trans e17))).lt (fun _=>by kernel_rfl) rfl fun g23 v24 hb26 ge27 q28 e25 hw5=>(so aggMat hb26 [.int .i64 ((n:Nat):Int),.int .i64 ((cc:Nat):Int),.slice LA21 (n*cc) lc21] hw5 ge27 rfl rfl rfl rfl fun v29 hb31 u32 hw6=>(mv 1 rfl (ne_ (cw_seq (sr (mv 1 rfl (wl_cmp rfl rfl rfl false (by decide) (by decide) (ne_ (cw_false rfl (cw_skip ?_)))))))))))))
  refine eo_then (sr (lo aggMat ((hb4.ext (e7.trans (e11.trans (e17.trans e25)))).updN u32 (by omega)) [.int .i64 ((n:Nat):Int),.int .i64 ((cc:Nat):Int),.slice Aa na capa] rfl rfl rfl ?_))
  obtain⟨lb34,hlb34,hlelb34,hgl34,hq34_0,hq34_1⟩:∃lb,lb≤v29.heap.size∧v29.heap.size≤lb∧w.heap.size≤lb∧g1<lb∧g23<lb:=⟨v29.heap.size,Nat.le_refl _,Nat.le_refl _,hw6.size,((hb4.ext (e7.trans (e11.trans (e17.trans e25)))).updN u32 (by omega)).lt,hb31.lt⟩
  have hql35:∀p:Addr,LA14=some p→p.block<lb34:=fun p hp=>Nat.lt_of_lt_of_le ((((lz14.ext (e17.trans e25)).updY hb26 u32)).block p hp).2 hlelb34
  have hql36:∀p:Addr,LA21=some p→p.block<lb34:=fun p hp=>Nat.lt_of_lt_of_le ((((lz21.ext e25).updY hb26 u32)).block p hp).2 hlelb34
  refine cl (vs:= [.agg #[.int .i64 ((n:Nat):Int),.int .i64 ((cc:Nat):Int),.slice Aa na capa]]) hw6 (g_top_copyMat (w0:=w) hw6.size hlb34 hw6 ((show ZF w _ _ _ _ _ from⟨msa,hla,hma⟩).ext hw6) (by omega)) rfl (by kernel_rfl) fun xr39 v37 r39 e38 hw7=>?_
  obtain⟨lv40,rfl,⟨LA41,lc41,rfl,lz41⟩⟩:=r39
  have blk42:=lz41.block
  refine cl (vs:= [.agg #[.int .i64 ((n:Nat):Int),.int .i64 ((cc:Nat):Int),.slice LA41 na lc41]]) hw7 (g_hnf_Form (X:=X) hw7.size (Nat.le_trans hlb34 e38.size) (((lz41).zf hw7).mono (by decide)) hna hn hcc hX (szr_A hn (fun i b hi hb=>Nat.le_trans (hXa i b hi hb) (by omega))) (by decide) (by decide)) rfl (by kernel_rfl) fun xr45 v43 r45 e44 hw8=>?_
  obtain⟨_,_,rfl,⟨lv47,rfl,⟨LA48,lc48,zs48,rfl,lz48,hz48⟩⟩,r46_1⟩:=r45
  have blk49:=lz48.block
  obtain rfl:=r46_1
  refine mv 1 rfl (pu (v:= .agg #[.int .i64 ((n:Nat):Int),.int .i64 ((cc:Nat):Int),.slice LA48 (n*cc) lc48]) rfl (by kernel_rfl) (pu (v:= .int .i64 0) rfl (by kernel_rfl) (alq [I0,I0,S0] hw8 (hb31.ext (e38.trans e44)).lt (fun _=>by kernel_rfl) rfl fun g50 v51 hb53 ge54 q55 e52 hw9=>(so aggMat hb53 [.int .i64 ((n:Nat):Int),.int .i64 ((cc:Nat):Int),.slice LA48 (n*cc) lc48] hw9 ge54 rfl rfl rfl rfl fun v56 hb58 u59 hw10=>(mv 1 rfl (ne_ (sr (lo aggMat ((hb31.ext (e38.trans (e44.trans e52))).updN u59 (by omega)) [.int .i64 ((n:Nat):Int),.int .i64 ((cc:Nat):Int),.slice LA21 (n*cc) lc21] rfl rfl rfl ?_))))))))
  obtain⟨lb61,hlb61,hlelb61,hgl61,hq61_0,hq61_1,hq61_2⟩:∃lb,lb≤v56.heap.size∧v56.heap.size≤lb∧w.heap.size≤lb∧g1<lb∧g23<lb∧g50<lb:=⟨v56.heap.size,Nat.le_refl _,Nat.le_refl _,hw10.size,((((hb4.ext (e7.trans (e11.trans (e17.trans e25)))).updN u32 (by omega)).ext (e38.trans (e44.trans e52))).updN u59 (by omega)).lt,((hb31.ext (e38.trans (e44.trans e52))).updN u59 (by omega)).lt,hb58.lt⟩
  have hql62:∀p:Addr,LA14=some p→p.block<lb61:=fun p hp=>Nat.lt_of_lt_of_le ((((((lz14.ext (e17.trans e25)).updY hb26 u32).ext (e38.trans (e44.trans e52))).updY hb53 u59)).block p hp).2 hlelb61
  have hql63:∀p:Addr,LA21=some p→p.block<lb61:=fun p hp=>Nat.lt_of_lt_of_le ((((((lz21.ext e25).updY hb26 u32).ext (e38.trans (e44.trans e52))).updY hb53 u59)).block p hp).2 hlelb61
  have hql64:∀p:Addr,LA41=some p→p.block<lb61:=fun p hp=>Nat.lt_of_lt_of_le ((((lz41.ext (e44.trans e52)).updY hb53 u59)).block p hp).2 hlelb61
  have hql65:∀p:Addr,LA48=some p→p.block<lb61:=fun p hp=>Nat.lt_of_lt_of_le ((((lz48.ext e52).updY hb53 u59)).block p hp).2 hlelb61
  refine cl (vs:= [.agg #[.int .i64 ((n:Nat):Int),.int .i64 ((cc:Nat):Int),.slice LA21 (n*cc) lc21]]) hw10 (g_hnf_Form (X:=stps ss X) hw10.size hlb61 ((((((lz21.ext e25).updY hb26 u32).ext (e38.trans (e44.trans e52))).updY hb53 u59).zf0).mono (by decide)) rfl hn hcc hz21 (szr_A hn (fun i b hi hb=>hz21.ln (((((lz21.ext e25).updY hb26 u32).ext (e38.trans (e44.trans e52))).updY hb53 u59).zf0) hi hb)) (by decide) (by decide)) rfl (by kernel_rfl) fun xr68 v66 r68 e67 hw11=>?_
  obtain⟨_,_,rfl,⟨lv70,rfl,⟨LA71,lc71,zs71,rfl,lz71,hz71⟩⟩,r69_1⟩:=r68
  have blk72:=lz71.block
  obtain rfl:=r69_1
  refine mv 1 rfl (pu (v:= .agg #[.int .i64 ((n:Nat):Int),.int .i64 ((cc:Nat):Int),.slice LA71 (n*cc) lc71]) rfl (by kernel_rfl) (pu (v:= .int .i64 0) rfl (by kernel_rfl) (alq [I0,I0,S0] hw11 (hb58.ext e67).lt (fun _=>by kernel_rfl) rfl fun g73 v74 hb76 ge77 q78 e75 hw12=>(so aggMat hb76 [.int .i64 ((n:Nat):Int),.int .i64 ((cc:Nat):Int),.slice LA71 (n*cc) lc71] hw12 ge77 rfl rfl rfl rfl fun v79 hb81 u82 hw13=>(mv 1 rfl (ne_ (cw_seq (cw_seq ?_))))))))
  obtain⟨d1,Y1,hR1,hE1⟩:=hz48
  obtain⟨d2,Y2,hR2,hE2⟩:=hz71
  refine cw_region (mv 1 rfl (wl_cmp rfl rfl rfl false (by decide) (by decide) (mv 2 rfl (wl_cmp rfl rfl rfl false (by decide) (by decide) (pu (v:= .bool false) rfl (by kernel_rfl) (mv 1 rfl (lo aggMat ((hb58.ext (e67.trans e75)).updN u82 (by omega)) [.int .i64 ((n:Nat):Int),.int .i64 ((cc:Nat):Int),.slice LA48 (n*cc) lc48] rfl rfl rfl (lo aggMat hb81 [.int .i64 ((n:Nat):Int),.int .i64 ((cc:Nat):Int),.slice LA71 (n*cc) lc71] rfl rfl rfl (cl (vs:= [.agg #[.int .i64 ((n:Nat):Int),.int .i64 ((cc:Nat):Int),.slice LA48 (n*cc) lc48],.agg #[.int .i64 ((n:Nat):Int),.int .i64 ((cc:Nat):Int),.slice LA71 (n*cc) lc71]]) hw13 (g_top_same ((((lz48.ext e52).updY hb53 u59).ext (e67.trans e75)).updY hb76 u82) (Nat.le_trans (Nat.le_trans (Nat.le_trans (Nat.le_trans (Nat.le_trans (Nat.le_trans (Nat.le_trans hlb34 e38.size) e44.size) e52.size) u59.by_.size) e67.size) e75.size) u82.by_.size) ((lz71.ext e75).updY hb76 u82) (Nat.le_trans (Nat.le_trans (Nat.le_trans hlb61 e67.size) e75.size) u82.by_.size) hn hcc (en_same hE1 hE2 (hR1.one hR2 (stps_eqv ss X (hallm hS hall))))) rfl (by kernel_rfl) fun xr86 v84 r86 e85 hw14=>?_)))))))))
  obtain rfl:=r86
  refine pu (v:= .bool false) rfl (by kernel_rfl) (pu (v:= .bool false) rfl (by kernel_rfl) (ne_ (cw_false rfl (cw_skip (eo_then (sr (lo aggMat (((hb58.ext (e67.trans e75)).updN u82 (by omega)).ext e85) [.int .i64 ((n:Nat):Int),.int .i64 ((cc:Nat):Int),.slice LA48 (n*cc) lc48] rfl rfl rfl ?_)))))))
  obtain⟨lb87,hlb87,hlelb87,hgl87,hq87_0,hq87_1,hq87_2,hq87_3⟩:∃lb,lb≤v84.heap.size∧v84.heap.size≤lb∧w.heap.size≤lb∧g1<lb∧g23<lb∧g50<lb∧g73<lb:=⟨v84.heap.size,Nat.le_refl _,Nat.le_refl _,hw14.size,(((((((hb4.ext (e7.trans (e11.trans (e17.trans e25)))).updN u32 (by omega)).ext (e38.trans (e44.trans e52))).updN u59 (by omega)).ext (e67.trans e75)).updN u82 (by omega)).ext e85).lt,(((((hb31.ext (e38.trans (e44.trans e52))).updN u59 (by omega)).ext (e67.trans e75)).updN u82 (by omega)).ext e85).lt,(((hb58.ext (e67.trans e75)).updN u82 (by omega)).ext e85).lt,(hb81.ext e85).lt⟩
  have hql88:∀p:Addr,LA14=some p→p.block<lb87:=fun p hp=>Nat.lt_of_lt_of_le (((((((((lz14.ext (e17.trans e25)).updY hb26 u32).ext (e38.trans (e44.trans e52))).updY hb53 u59).ext (e67.trans e75)).updY hb76 u82).ext e85)).block p hp).2 hlelb87
  have hql89:∀p:Addr,LA21=some p→p.block<lb87:=fun p hp=>Nat.lt_of_lt_of_le (((((((((lz21.ext e25).updY hb26 u32).ext (e38.trans (e44.trans e52))).updY hb53 u59).ext (e67.trans e75)).updY hb76 u82).ext e85)).block p hp).2 hlelb87
  have hql90:∀p:Addr,LA41=some p→p.block<lb87:=fun p hp=>Nat.lt_of_lt_of_le (((((((lz41.ext (e44.trans e52)).updY hb53 u59).ext (e67.trans e75)).updY hb76 u82).ext e85)).block p hp).2 hlelb87
  have hql91:∀p:Addr,LA48=some p→p.block<lb87:=fun p hp=>Nat.lt_of_lt_of_le (((((((lz48.ext e52).updY hb53 u59).ext (e67.trans e75)).updY hb76 u82).ext e85)).block p hp).2 hlelb87
  have hql92:∀p:Addr,LA71=some p→p.block<lb87:=fun p hp=>Nat.lt_of_lt_of_le (((((lz71.ext e75).updY hb76 u82).ext e85)).block p hp).2 hlelb87
  refine cl (vs:= [.agg #[.int .i64 ((n:Nat):Int),.int .i64 ((cc:Nat):Int),.slice LA48 (n*cc) lc48]]) hw14 (g_hnf_Form (X:=Y1) hw14.size hlb87 ((((((lz48.ext e52).updY hb53 u59).ext (e67.trans e75)).updY hb76 u82).ext e85).zf0) rfl hn hcc hE1 (hR1.szr (szr_A hn (fun i b hi hb=>Nat.le_trans (hXa i b hi hb) (by omega)))) (by decide) (by decide)) rfl (by kernel_rfl) fun xr95 v93 r95 e94 hw15=>?_
  obtain⟨_,_,rfl,⟨lv97,rfl,⟨LA98,lc98,zs98,rfl,lz98,hz98⟩⟩,r96_1⟩:=r95
  have blk99:=lz98.block
  obtain rfl:=r96_1
  refine mv 1 rfl (pu (v:= .agg #[.int .i64 ((n:Nat):Int),.int .i64 ((cc:Nat):Int),.slice LA98 (n*cc) lc98]) rfl (by kernel_rfl) (pu (v:= .int .i64 0) rfl (by kernel_rfl) (alq [I0,I0,S0] hw15 (hb81.ext (e85.trans e94)).lt (fun _=>by kernel_rfl) rfl fun g100 v101 hb103 ge104 q105 e102 hw16=>(so aggMat hb103 [.int .i64 ((n:Nat):Int),.int .i64 ((cc:Nat):Int),.slice LA98 (n*cc) lc98] hw16 ge104 rfl rfl rfl rfl fun v106 hb108 u109 hw17=>(mv 1 rfl (ne_ (cw_seq ?_)))))))
  obtain⟨d3,Y3,hR3,hE3⟩:=hz98
  refine cw_region (mv 1 rfl (wl_cmp rfl rfl rfl true (by decide) (by decide) (mv 1 rfl (lo aggMat hb108 [.int .i64 ((n:Nat):Int),.int .i64 ((cc:Nat):Int),.slice LA98 (n*cc) lc98] rfl rfl rfl (lo aggMat ((((hb58.ext (e67.trans e75)).updN u82 (by omega)).ext (e85.trans (e94.trans e102))).updN u109 (by omega)) [.int .i64 ((n:Nat):Int),.int .i64 ((cc:Nat):Int),.slice LA48 (n*cc) lc48] rfl rfl rfl (cl (vs:= [.agg #[.int .i64 ((n:Nat):Int),.int .i64 ((cc:Nat):Int),.slice LA98 (n*cc) lc98],.agg #[.int .i64 ((n:Nat):Int),.int .i64 ((cc:Nat):Int),.slice LA48 (n*cc) lc48]]) hw17 (g_top_same ((lz98.ext e102).updY hb103 u109) (Nat.le_trans (Nat.le_trans (Nat.le_trans hlb87 e94.size) e102.size) u109.by_.size) ((((((lz48.ext e52).updY hb53 u59).ext (e67.trans e75)).updY hb76 u82).ext (e85.trans (e94.trans e102))).updY hb103 u109) (Nat.le_trans (Nat.le_trans (Nat.le_trans (Nat.le_trans (Nat.le_trans (Nat.le_trans (Nat.le_trans (Nat.le_trans (Nat.le_trans (Nat.le_trans (Nat.le_trans hlb34 e38.size) e44.size) e52.size) u59.by_.size) e67.size) e75.size) u82.by_.size) e85.size) e94.size) e102.size) u109.by_.size) hn hcc (en_same hE3 hE1 (hR3.one hR1 hR1.self.symm))) rfl (by kernel_rfl) fun xr113 v111 r113 e112 hw18=>?_))))))
  obtain rfl:=r113
  refine pu (v:= .bool true) rfl (by kernel_rfl) (mv 1 rfl (ne_ (cw_ret (eo_ret [.bool true] rfl ⟨rfl,trivial⟩ ?_))))
  exact⟨_,rfl,rfl,hw18⟩
 · 
  refine cw_region (lo aggMat (hb4.ext e7) [.int .i64 ((n:Nat):Int),.int .i64 ((cc:Nat):Int),.slice Aa na capa] rfl rfl rfl ?_)
  obtain⟨lb114,hlb114,hlelb114,hgl114,hq114_0⟩:∃lb,lb≤v6.heap.size∧v6.heap.size≤lb∧w.heap.size≤lb∧g1<lb:=⟨v6.heap.size,Nat.le_refl _,Nat.le_refl _,hw2.size,(hb4.ext e7).lt⟩
  refine cl (vs:= [.agg #[.int .i64 ((n:Nat):Int),.int .i64 ((cc:Nat):Int),.slice Aa na capa]]) hw2 (g_top_copyMat (w0:=w) hw2.size hlb114 hw2 ((show ZF w _ _ _ _ _ from⟨msa,hla,hma⟩).ext hw2) (by omega)) rfl (by kernel_rfl) fun xr117 v115 r117 e116 hw3=>?_
  obtain⟨lv118,rfl,⟨LA119,lc119,rfl,lz119⟩⟩:=r117
  have blk120:=lz119.block
  refine mv 1 rfl (cl (vs:= [.agg #[.int .i64 ((n:Nat):Int),.int .i64 ((cc:Nat):Int),.slice LA119 na lc119],.slice As m caps]) hw3 (g_stp_Rows_no ((lz119).zf hw3) hna hn hcc (hS.ext hw3) hM hm hall) rfl (by kernel_rfl) fun xr123 v121 r123 e122 hw4=>?_)
  obtain⟨_,_,rfl,rfl,rfl⟩:=r123
  refine mv 1 rfl (pu (v:= .agg #[I0,I0,S0]) rfl (by kernel_rfl) (pu (v:= .int .i64 3) rfl (by kernel_rfl) (alq [I0,I0,S0] hw4 (hb4.ext (e7.trans (e116.trans e122))).lt (fun _=>by kernel_rfl) rfl fun g125 v126 hb128 ge129 q130 e127 hw5=>(so aggMat hb128 [I0,I0,S0] hw5 ge129 rfl rfl rfl rfl fun v131 hb133 u134 hw6=>(mv 1 rfl (ne_ (cw_seq (sr (mv 1 rfl (wl_cmp rfl rfl rfl true (by decide) (by decide) (ne_ (cw_true rfl (cw_seq ?_)))))))))))))
  refine cw_region (mv 1 rfl (wl_cmp rfl rfl rfl false (by decide) (by decide) (mv 4 rfl (pu (v:= .bool false) rfl (by kernel_rfl) (mv 2 rfl (wl_cmp rfl rfl rfl true (by decide) (by decide) (mv 1 rfl (lo aggMat ((hb4.ext (e7.trans (e116.trans (e122.trans e127)))).updN u134 (by omega)) [.int .i64 ((n:Nat):Int),.int .i64 ((cc:Nat):Int),.slice Aa na capa] rfl rfl rfl (cl (vs:= [.agg #[.int .i64 ((n:Nat):Int),.int .i64 ((cc:Nat):Int),.slice Aa na capa]]) hw6 (g_top_sound_t hs) rfl (by kernel_rfl) fun xr138 v136 r138 e137 hw7=>?_)))))))))
  obtain rfl:=r138
  refine pu (v:= .bool true) rfl (by kernel_rfl) (pu (v:= .bool true) rfl (by kernel_rfl) (mv 1 rfl (ne_ (cw_ret (eo_thenR (eo_ret [.bool true] rfl ⟨rfl,trivial⟩ ?_))))))
  exact⟨_,rfl,rfl,hw7⟩
theorem law_WholeOneHermite {w:World}{R C:Int}{Aa As:Option Addr}{na capa m caps Ka:Nat}{xs:List Int}{ss:List Stp}{ms:List Nat}(hxa:ZF w Aa na capa Ka xs) (hS:Sl w As m ss ms)
  (hk:(Ka+na)+(m+ms.sum)≤1048576):
  Calls Tryz.prog 3 #[.agg #[.int .i64 R,.int .i64 C,.slice Aa na capa],.slice As m caps] w (fun e w'=>e= .returned (.bool true)∧Ext w w'):=by
 have hxa':ZF w Aa na capa 1048576 xs:=hxa.mono (by omega)
 have hM:∀i,ms.getD i 0≤1048576:=fun i=>Nat.le_trans (getD_le_sum ms i) (by omega)
 have hm:m≤1048576:=by omega
 have key:Calls Tryz.prog 3 #[.agg #[.int .i64 R,.int .i64 C,.slice Aa na capa],.slice As m caps] w (Gv w (Is (.bool true))):=by
  by_cases hs:Snd R C na
  ·obtain⟨n,rfl⟩:=Int.eq_ofNat_of_zero_le hs.1.1
   obtain⟨c,rfl⟩:=Int.eq_ofNat_of_zero_le hs.2.1.1
   have hn:n≤64:=by have:=hs.1.2;omega
   have hc:c≤64:=by have:=hs.2.1.2;omega
   have hna:na=n*c:=by have:=hs.2.2;exact_mod_cast this
   exact g_top_WholeOneHermite_ok (X:=fun i j=>xs.getD (i*c+j) 0) hxa' hS hM hm (by omega) hna hn hc (fun _ _ _ _=>rfl) (fun a b _ _=>hxa.ln _) (by omega)
  ·exact g_top_WholeOneHermite_bad hxa' (by omega) hs
 refine key.mono fun e w' h=>?_
 obtain⟨v,rfl,h1,h2⟩:=h
 exact⟨by rw [show v=_ from h1],h2⟩
end Go.Proofs.YtnpbbknemflpnaaGreat
