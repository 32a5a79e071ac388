import Derived.Test.YtednaajanciabaaGreatDoorKEdges
set_option maxRecDepth 100000
set_option maxHeartbeats 8000000
set_option linter.unusedSimpArgs false
set_option linter.unusedVariables false
namespace Go.Proofs.YtednaajanciabaaGreatDoor
open Go.RowKit Go.Grid Go.Maps Go.Sort Go.Shelf
theorem build_any (n:Nat) (h1:1≤n) (h2:n≤8) (w:World) (hT:HasTab w):Calls Tryz.prog 62 #[.int .i64 n] w fun e w'=>e=.returned (.pointer (some ⟨w.heap.size+1,0,none⟩))∧NetFull w' (w.heap.size+1) n∧Below w.heap.size w w':=by
 have hlt:=hT.lt
 have hne0:¬ 1=w.heap.size:=by omega
 have hne1:¬ 1=w.heap.size+1:=by omega
 have hne2:¬ 1=w.heap.size+2:=by omega
 have hne3:¬ 1=w.heap.size+3:=by omega
 have hne4:¬ 1=w.heap.size+4:=by omega
 have hnz0:¬ w.heap.size=0:=by omega
 have hpz0:0 < w.heap.size:=by omega
 have hpz1:1≤w.heap.size:=by omega
 have hpz2:1≤w.heap.size:=by omega
 have hnz1:¬ w.heap.size=1:=by omega
 have hn:=hh_mul h1 h2
 have hh1:1≤hh n:=hh_pos h1 (by omega)
 have hh8:hh n≤840:=Nat.div_le_self _ _
 go_enter Tryz.func62,Tryz.ntmps62
 go_wp2_with fail
 refine (points_any n h1 h2 w hT).mono ?_
 rintro e w1 ⟨rfl,hN,⟨c4,c5,c6⟩,hb1⟩
 have hI1:CellInv w1 (w.heap.size+1) n (w.heap.size+2) (nodesL n) (csofar n 0 0 0):=by
  rw[csofar_start]
  exact⟨hN,⟨_,c4,World.ownsRow_nil _ _ _ _⟩,c5,c6⟩
 clear hN c4 c5 c6
 go_wp2
 go_loopw [15] (fun i wr=>∃ f:Nat,f≤20∧i=.int .i64 f∧CellInv wr (w.heap.size+1) n (w.heap.size+2) (nodesL n) (csofar n f 0 0)∧Below w.heap.size w wr) (fun i _=>20-(intOf i).toNat)
 case atStart=>exact⟨0,by omega,rfl,hI1,hb1⟩
 case round=>
  clear hI1 hb1
  obtain⟨f,hf,rfl,hI,hb⟩:=hrel
  by_cases hltf:f < 20
  ·have hdf:decide ((f:Int) < 20)=true:=zDt (by omega)
   go_wp2
   go_loopw [5] (fun i wr=>∃ a:Nat,a≤n∧i=.int .i64 a∧CellInv wr (w.heap.size+1) n (w.heap.size+2) (nodesL n) (csofar n f a 0)∧Below w.heap.size w wr) (fun i _=>n-(intOf i).toNat)
   case atStart=>exact⟨0,by omega,rfl,hI,hb⟩
   case round=>
    clear hI hb
    obtain⟨a,ha,rfl,hI,hb⟩:=hrel
    by_cases hlta:a < n
    ·have hda:decide ((a:Int) < (n:Int))=true:=zDt (by omega)
     go_wp2
     go_loopw [6] (fun i wr=>∃ b:Nat,b≤n-a∧i=.int .i64 b∧CellInv wr (w.heap.size+1) n (w.heap.size+2) (nodesL n) (csofar n f a b)∧Below w.heap.size w wr) (fun i _=>n-a-(intOf i).toNat)
     case atStart=>exact⟨0,by omega,rfl,hI,hb⟩
     case round=>
      clear hI hb
      obtain⟨b,hbb,rfl,hI,hb⟩:=hrel
      by_cases hltb:a+b < n
      ·obtain⟨x,hx⟩:∃ x,x=a*hh n:=⟨_,rfl⟩
       obtain⟨y,hy⟩:∃ y,y=b*hh n:=⟨_,rfl⟩
       obtain⟨z,hz⟩:∃ z,z=(n-1-a-b)*hh n:=⟨_,rfl⟩
       have hpos:cpos n f a b=⟨f,x,y,z⟩:=by rw[hx,hy,hz];rfl
       have hsum:x+y+z+hh n=840:=by
        rw[hx,hy,hz,←Nat.add_mul,←Nat.add_mul,←Nat.succ_mul,show (a+b+(n-1-a-b)).succ=n by omega,hn]
       have ex:(a:Int)*((hh n:Nat):Int)=x:=by rw[hx,Int.natCast_mul]
       have ey:(b:Int)*((hh n:Nat):Int)=y:=by rw[hy,Int.natCast_mul]
       have ez:((n:Int)-1-a-b)*((hh n:Nat):Int)=z:=by rw[hz,Int.natCast_mul,Int.natCast_sub (by omega),Int.natCast_sub (by omega),Int.natCast_sub (by omega)];rfl
       have hch:=hI.net.ch
       have hlen:=len_csofar (f:=f) (a:=a) (b:=b) h2 (by omega) (by omega) (by omega)
       have HL:=zN hpos
       clear hx hy hz hpos
       have hdb:decide ((a:Int)+(b:Int) < (n:Int))=true:=zDt (by omega)
       go_wp2
       refine RY.region RX.fN (fun w'=>w'.cell? ⟨w.heap.size+1,1,none⟩=some (.int .i64 ((hh n:Nat):Int))) (by kernel_rfl) (by kernel_rfl) (hch) (fun OPS HO QR hQR=>?_)
       repeat (refine zeY (fun R hR=>?_);(first|refine zaY (by first|rfl|(rw[HO.out];rfl)) (by simp only[zA,zB,zC,zD];rfl) ?_|refine zbY (by first|rfl|(rw[HO.out];rfl)) rfl (by first|exact .inl rfl|exact .inr rfl) (by simp only[zE,zF,zG,zH];rfl) (by simp only[zA,zB,zC,zD];rfl) ?_|refine zcY (by first|rfl|(rw[HO.out];rfl)) rfl rfl (by simp only[zE,zF,zG,zH];rfl) (by simp only[zA,zB,zC,zD];rfl) ?_|(refine zdY (by first|rfl|(rw[HO.out];rfl)) rfl rfl rfl ?_;apply zEx;apply zEx;refine⟨fun w' hS K hK=>?_,?_,?_⟩;(focus (have hS1:=hS;go_wp2;exact hK _ _ (by simp only[zl,zG,zH];first|exact zf (by omega)|exact zg (by omega)|exact zh (by omega)|exact zi (by omega)|exact zj (by omega)|exact zk (by omega)|exact RX.bneB _|rfl) rfl));(focus (simp only[zA,zB,zC,zD];rfl))));refine hR _ _ ?_;clear hR R)
       refine zeY (fun R hR=>?_)
       refine zgY (by first|rfl|(rw[HO.out];rfl)) rfl (fun K hK=>?_)
       go_wp2_with fail
       refine (cells_any (w.heap.size+1) n (w.heap.size+2) (nodesL n) (csofar n f a b) ⟨f,x,y,z⟩ _ (hT.below hb.drew) (by omega) (hI.below (zBr _ _).drew) hltf hsum (by omega) hh1).mono ?_
       rintro e w2 ⟨rfl,hI2,hb2⟩
       have hb3:Below w.heap.size w w2:=hb.trans (Below_undrew hb2)
       have HI2:Hid (CellInv w2 (w.heap.size+1) n (w.heap.size+2) (nodesL n) (csofar n f a (b+1))):=zN (by
        rw[csofar_succ,HL.out];exact hI2)
       clear hI hI2 hb hb2 hch ex ey ez
       refine hK _ _ ⟨(by first|exact .inl rfl|exact .inl trivial|trivial),hR _ _ ?_⟩;clear hK K hR R
       refine RY.wpL_nil (hQR _ _ ?_);clear hQR QR HO OPS
       go_wp2
       go_roundw
       case rel=>exact⟨b+1,by omega,by go_num,HI2.out,hb3⟩
       case measure=>simp[intOf];omega
      ·have eb:b=n-a:=by omega
       rw[eb,csofar_row] at hI
       clear eb
       have hdb:decide ((a:Int)+(b:Int) < (n:Int))=false:=zDf (by omega)
       go_wp2
       go_roundw
       case rel=>exact⟨a+1,by omega,by go_num,hI,hb⟩
       case measure=>simp[intOf];omega
    ·obtain rfl:a=n:=by omega
     rw[csofar_face] at hI
     go_wp2
     go_roundw
     case rel=>exact⟨f+1,by omega,by go_num,hI,hb⟩
     case measure=>simp[intOf];omega
  ·obtain rfl:f=20:=by omega
   rw[csofar_end] at hI
   have hlenC:(cellsRaw n).length≤5000:=by
    have:=len_csofar (f:=20) (a:=0) (b:=0) h2 (by omega) (by omega) (by omega)
    rwa[csofar_end] at this
   obtain⟨v4,e4,hown4⟩:=hI.c4
   have hlen3:(cells3 n).length=(cellsRaw n).length:=by simp[cells3]
   have hN:=hI.net
   have c5:=hI.c5
   have c6:=hI.c6
   rw[ceVals_eq (cells_three n)] at hown4
   change wr.ownsRow _ _ _ v4 _ ((cells3 n).flatMap enc3) at hown4
   rw[←hlen3] at hown4 hlenC
   clear hI hlen3
   obtain⟨b4,k4,cur4,rfl,hk4,hb4,hc4⟩:=own_some hown4 (cells3_pos h1)
   have hH4:HoldsK enc3 3 wr b4 0 (cells3 n).toArray:=own_holds (k:=3) (by decide) (fun _=>rfl) hown4 rfl
   have hlt4:b4 < wr.heap.size:=lt_of_block hc4
   have hg:w.heap.size+1 < wr.heap.size:=zM _ _ e4
   clear hown4
   go_wp2_with fail
   refine (sortCell_any wr b4 (cells3 n) (some ⟨b4,0,none⟩) k4 (fun _=>rfl) hH4 hk4 (by omega)).mono ?_
   rintro e w2 ⟨rfl,hg2,d3,hperm,hsort,hH3⟩
   have hd3:=sort3_one hperm hsort
   have hld:d3.length=(cells3 n).length:=hperm.length_eq
   rw[←hld] at e4 hk4 hlenC
   have hgb:some (w.heap.size+1)≠some b4:=by simp;omega
   have hN2:=hN.row hg2 hb4 hc4 (by decide)
   have hB2:Below w.heap.size w w2:=hb.grown hg2 hb.size (fun k hk=>by injection hk with hk;omega)
   have e42:=hg2.cell e4 hgb
   have e52:=hg2.cell c5 hgb
   have e62:=hg2.cell c6 hgb
   have hs2:=hg2.size
   have HD:=zN (And.intro hd3 hH3)
   clear hN hg2 hH4 hperm hsort hc4 hd3 hH3 e4 c5 c6 hb hgb
   rw[←hld]
   have HLD:=zN hld
   clear hld
   have hg2:w.heap.size+1 < w2.heap.size:=by omega
   go_wp2
   go_loopw [68] (fun i wr=>∃ k:Nat,k≤d3.length∧i=.int .i64 k∧Fld w2 wr (w.heap.size+1) 5∧∃ v5,wr.cell? ⟨w.heap.size+1,5,none⟩=some v5∧wr.ownsRow w2.heap.size 139 2 v5 (k*3) ((edTo d3 k).flatMap enc2)) (fun i _=>d3.length-(intOf i).toNat)
   case atStart=>exact⟨0,by omega,rfl,Fld.refl hg2,_,e52,World.ownsRow_nil _ _ _ _⟩
   case round=>
    obtain⟨k,hk,rfl,hF,v5,e5,hown5⟩:=hrel
    by_cases hltk:k < d3.length
    ·have hdk:decide ((k:Int) < (d3.length:Int))=true:=zDt (by omega)
     have hb4e:=hF.block (k:=b4) (by omega) (by omega)
     obtain⟨x0,x1,x2⟩:=holds3_get HD.out.2 k hltk
     have x0:=(World.cell?_of_block hb4e).trans x0
     have x1:=(World.cell?_of_block hb4e).trans x1
     have x2:=(World.cell?_of_block hb4e).trans x2
     obtain⟨c,hc⟩:∃ c,c=d3[k]:=⟨_,rfl⟩
     rw[←hc] at x0 x1 x2
     have HC:=zN hc
     clear hc hb4e
     obtain⟨c0,c1,c2⟩:=c
     dsimp only at x0 x1 x2
     obtain⟨p5,k5,rfl,hk5⟩:=own_slice hown5
     have hsw:=hF.size
     have hFf:wr.frozen? ⟨w.heap.size+1,5,none⟩=false:=(hF.frz 5).trans (hN2.fr 5)
     have hgl:w.heap.size+1 < wr.heap.size:=by omega
     go_wp2
     have m5:(wr.alloc (.cells #[.int .i64 c0,.int .i64 c1,.int .i64 c2] 136)).cell? ⟨w.heap.size+1,5,none⟩=some (.slice p5 (k*3) k5):=(by (try have hLt:=zM _ _ e5);(try simp only at hLt);(repeat first|rw[zO]|rw[zK _ _ _ _ (by first|(simp<;>omega)|omega)]|rw[zJ,if_neg (by first|(simp<;>omega)|omega)]);first|exact e5|(rw[zJ,if_pos (by first|(simp;done)|omega)];exact e5))
     have y0:(wr.alloc (.cells #[.int .i64 c0,.int .i64 c1,.int .i64 c2] 136)).cell? ⟨wr.heap.size,0,none⟩=some (.int .i64 c0):=(by simp[zO,zJ,zQ])
     have y1:(wr.alloc (.cells #[.int .i64 c0,.int .i64 c1,.int .i64 c2] 136)).cell? ⟨wr.heap.size,1,none⟩=some (.int .i64 c1):=(by simp[zO,zJ,zQ])
     have y2:(wr.alloc (.cells #[.int .i64 c0,.int .i64 c1,.int .i64 c2] 136)).cell? ⟨wr.heap.size,2,none⟩=some (.int .i64 c2):=(by simp[zO,zJ,zQ])
     have hFa:=hF.alloc (.cells #[.int .i64 c0,.int .i64 c1,.int .i64 c2] 136)
     have hown5a:=hown5.alloc (.cells #[.int .i64 c0,.int .i64 c1,.int .i64 c2] 136)
     have hlow5:∀ b,(Value.slice p5 (k*3) k5).ownBlock=some b→w2.heap.size≤b∧b < wr.heap.size:=hown5.lt
     have hfa:(wr.alloc (.cells #[.int .i64 c0,.int .i64 c1,.int .i64 c2] 136)).frozen? ⟨w.heap.size+1,5,none⟩=false:=by rw[RX.frozen_alloc,if_neg (by omega)];exact hFf
     have hsa:wr.heap.size < (wr.alloc (.cells #[.int .i64 c0,.int .i64 c1,.int .i64 c2] 136)).heap.size:=by simp
     clear hF hown5 e5 x0 x1 x2 hFf
     generalize hWa:wr.alloc (.cells #[.int .i64 c0,.int .i64 c1,.int .i64 c2] 136)=Wa at *
     refine RY.region RX.fN (fun w'=>w'.cell? ⟨w.heap.size+1,5,none⟩=some (.slice p5 (k*3) k5)∧w'.cell? ⟨wr.heap.size,0,none⟩=some (.int .i64 c0)∧w'.cell? ⟨wr.heap.size,1,none⟩=some (.int .i64 c1)∧w'.cell? ⟨wr.heap.size,2,none⟩=some (.int .i64 c2)) (by kernel_rfl) (by kernel_rfl) (⟨m5,y0,y1,y2⟩) (fun OPS HO QR hQR=>?_)
     repeat (refine zeY (fun R hR=>?_);(first|refine zaY (by first|rfl|(rw[HO.out];rfl)) (by simp only[zA,zB,zC,zD];rfl) ?_|refine zbY (by first|rfl|(rw[HO.out];rfl)) rfl (by first|exact .inl rfl|exact .inr rfl) (by simp only[zE,zF,zG,zH];rfl) (by simp only[zA,zB,zC,zD];rfl) ?_|refine zcY (by first|rfl|(rw[HO.out];rfl)) rfl rfl (by simp only[zE,zF,zG,zH];rfl) (by simp only[zA,zB,zC,zD];rfl) ?_|(refine zdY (by first|rfl|(rw[HO.out];rfl)) rfl rfl rfl ?_;apply zEx;apply zEx;refine⟨fun w' hS K hK=>?_,?_,?_⟩;(focus (obtain⟨hS1,hS2,hS3,hS4⟩:=hS;go_wp2;exact hK _ _ (by simp only[zl,zG,zH];first|exact zf (by omega)|exact zg (by omega)|exact zh (by omega)|exact zi (by omega)|exact zj (by omega)|exact zk (by omega)|exact RX.bneB _|rfl) rfl));(focus (simp only[zA,zB,zC,zD];rfl))));refine hR _ _ ?_;clear hR R)
     refine zeY (fun R hR=>?_)
     refine zgY (by first|rfl|(rw[HO.out];rfl)) rfl (fun K hK=>?_)
     go_wp2
     refine⟨.inr (⟨(by (try have hLt:=zM _ _ m5);(try simp only at hLt);(repeat first|rw[zO]|rw[zK _ _ _ _ (by first|(simp<;>omega)|omega)]|rw[zJ,if_neg (by first|(simp<;>omega)|omega)]);first|exact m5|(rw[zJ,if_pos (by first|(simp;done)|omega)];exact m5)),(by (try have hLt:=zM _ _ y0);(try simp only at hLt);(repeat first|rw[zO]|rw[zK _ _ _ _ (by first|(simp<;>omega)|omega)]|rw[zJ,if_neg (by first|(simp<;>omega)|omega)]);first|exact y0|(rw[zJ,if_pos (by first|(simp;done)|omega)];exact y0)),(by (try have hLt:=zM _ _ y1);(try simp only at hLt);(repeat first|rw[zO]|rw[zK _ _ _ _ (by first|(simp<;>omega)|omega)]|rw[zJ,if_neg (by first|(simp<;>omega)|omega)]);first|exact y1|(rw[zJ,if_pos (by first|(simp;done)|omega)];exact y1)),(by (try have hLt:=zM _ _ y2);(try simp only at hLt);(repeat first|rw[zO]|rw[zK _ _ _ _ (by first|(simp<;>omega)|omega)]|rw[zJ,if_neg (by first|(simp<;>omega)|omega)]);first|exact y2|(rw[zJ,if_pos (by first|(simp;done)|omega)];exact y2))⟩),hR _ _ ?_⟩;clear hR R
     repeat (refine zeY (fun R hR=>?_);(first|refine zaY (by first|rfl|(rw[HO.out];rfl)) (by simp only[zA,zB,zC,zD];rfl) ?_|refine zbY (by first|rfl|(rw[HO.out];rfl)) rfl (by first|exact .inl rfl|exact .inr rfl) (by simp only[zE,zF,zG,zH];rfl) (by simp only[zA,zB,zC,zD];rfl) ?_|refine zcY (by first|rfl|(rw[HO.out];rfl)) rfl rfl (by simp only[zE,zF,zG,zH];rfl) (by simp only[zA,zB,zC,zD];rfl) ?_|(refine zdY (by first|rfl|(rw[HO.out];rfl)) rfl rfl rfl ?_;apply zEx;apply zEx;refine⟨fun w' hS K hK=>?_,?_,?_⟩;(focus (obtain⟨hS1,hS2,hS3,hS4⟩:=hS;go_wp2;exact hK _ _ (by simp only[zl,zG,zH];first|exact zf (by omega)|exact zg (by omega)|exact zh (by omega)|exact zi (by omega)|exact zj (by omega)|exact zk (by omega)|exact RX.bneB _|rfl) rfl));(focus (simp only[zA,zB,zC,zD];rfl))));refine hR _ _ ?_;clear hR R)
     refine zeY (fun R hR=>?_)
     refine zgY (by first|rfl|(rw[HO.out];rfl)) rfl (fun K hK=>?_)
     refine RX.wp_app elEd _ _ rfl w2.heap.size _ _ _ ((World.ownsRow.drew hown5a).alloc _) (by simp only[zE,zF,zG,zH]) Wa.heap.size _ 3 (by simp only[zE,zF,zG,zH]) (heap_alloc_new _ _) rfl (by simp[Value.oneCell']) (by omega) (by omega) (by simp;omega) (fun v6 w6 hown6 hb6 hg6 hat6=>?_)
     have hg56:Wa.grownBy w6 (Value.slice p5 (k*3) k5).ownBlock:=by
      have h0:Wa.grownBy (Wa.drew.alloc (.cells #[.int .i64 c0,.int .i64 c1,.int .i64 c0,.int .i64 c2,.int .i64 c1,.int .i64 c2] 139)) (Value.slice p5 (k*3) k5).ownBlock:=by
       have:=World.grownBy_alloc Wa.drew (.cells #[.int .i64 c0,.int .i64 c1,.int .i64 c0,.int .i64 c2,.int .i64 c1,.int .i64 c2] 139) (Value.slice p5 (k*3) k5).ownBlock
       exact⟨this.os,this.tape,this.output,this.size,this.block⟩
      exact h0.trans hg6
     have hnb:some wr.heap.size≠(Value.slice p5 (k*3) k5).ownBlock:=fun e=>by have:=(hlow5 _ e.symm).2;omega
     have hng:some (w.heap.size+1)≠(Value.slice p5 (k*3) k5).ownBlock:=fun e=>by have:=(hlow5 _ e.symm).1;omega
     have hF6:Fld w2 w6 (w.heap.size+1) 5:=hFa.step hg56 (fun b e=>(hlow5 b e).1)
     have m6:=hg56.cell m5 hng
     have hf6:w6.frozen? ⟨w.heap.size+1,5,none⟩=false:=(hF6.frz 5).trans (hN2.fr 5)
     obtain⟨p6,k6,hv6,_⟩:=own_slice hown6
     subst hv6
     refine hK _ _ ⟨.inr (⟨m6,hg56.cell y0 hnb,hg56.cell y1 hnb,hg56.cell y2 hnb⟩),?_⟩;clear hK K;refine RY.at_ (by simp only[RX.put_some,RX.put_none,List.set_cons_zero,List.set_cons_succ];rfl) (hR _ _ ?_);clear hR R
     repeat (refine zeY (fun R hR=>?_);(first|refine zaY (by first|rfl|(rw[HO.out];rfl)) (by simp only[zA,zB,zC,zD];rfl) ?_|refine zbY (by first|rfl|(rw[HO.out];rfl)) rfl (by first|exact .inl rfl|exact .inr rfl) (by simp only[zE,zF,zG,zH];rfl) (by simp only[zA,zB,zC,zD];rfl) ?_|refine zcY (by first|rfl|(rw[HO.out];rfl)) rfl rfl (by simp only[zE,zF,zG,zH];rfl) (by simp only[zA,zB,zC,zD];rfl) ?_|(refine zdY (by first|rfl|(rw[HO.out];rfl)) rfl rfl rfl ?_;apply zEx;apply zEx;refine⟨fun w' hS K hK=>?_,?_,?_⟩;(focus (obtain⟨hS1,hS2,hS3,hS4⟩:=hS;go_wp2;exact hK _ _ (by simp only[zl,zG,zH];first|exact zf (by omega)|exact zg (by omega)|exact zh (by omega)|exact zi (by omega)|exact zj (by omega)|exact zk (by omega)|exact RX.bneB _|rfl) rfl));(focus (simp only[zA,zB,zC,zD];rfl))));refine hR _ _ ?_;clear hR R)
     refine zeY (fun R hR=>?_)
     refine zgY (by first|rfl|(rw[HO.out];rfl)) rfl (fun K hK=>?_)
     go_wp2
     first|refine⟨(by first|exact .inl rfl|exact .inl trivial|trivial),hR _ _ (RY.wpL_nil (hQR _ _ ?_))⟩|refine hR _ _ (RY.wpL_nil (hQR _ _ ?_))|refine hQR _ _ ?_
     (try clear hR);(try clear R);clear hQR QR HO OPS
     go_wp2
     have HO:Hid ((w6.setCell ⟨w.heap.size+1,5,none⟩ (.slice p6 (k*3+3) k6)).ownsRow w2.heap.size 139 2 (.slice p6 (k*3+3) k6) ((k+1)*3) ((edTo d3 (k+1)).flatMap enc2)):=zN (by
      rw[edTo_succ hltk,List.flatMap_append,←HC.out,show (k+1)*3=k*3+3 by omega]
      exact ownsRow_setCell_other hown6 (fun e=>by have h9:w2.heap.size≤w.heap.size+1:=(hown6.lt _ e).1;omega) _)
     have HM:Hid ((w6.setCell ⟨w.heap.size+1,5,none⟩ (.slice p6 (k*3+3) k6)).cell? ⟨w.heap.size+1,5,none⟩=some (.slice p6 (k*3+3) k6)):=zN (zL _ _ _ (by rw[m6];rfl))
     go_roundw
     case rel=>exact⟨k+1,by omega,by go_num,hF6.set _,_,HM.out,HO.out⟩
     case measure=>simp[intOf];omega
    ·obtain rfl:k=d3.length:=by omega
     have hlE:=edTo_len d3 d3.length (Nat.le_refl _)
     obtain⟨E,hE⟩:∃ E,E=edTo d3 d3.length:=⟨_,rfl⟩
     rw[←hE] at hlE hown5
     have hpos3:0 < d3.length:=by rw[HLD.out];exact cells3_pos h1
     obtain⟨b5,k5,cur5,rfl,hk5,hb5,hc5⟩:=own_some hown5 (by omega)
     have hH5:HoldsK enc2 2 wr b5 0 E.toArray:=own_holds (k:=2) (by decide) (fun _=>rfl) hown5 hlE
     have HE:=zN hE
     clear hown5 hc5 hE
     rw[←hlE] at hk5 e5
     have hsw:=hF.size
     have hgl:w.heap.size+1 < wr.heap.size:=by omega
     go_wp2_with fail
     rw[←hlE]
     have hE1:E.length≤15000:=by omega
     refine (sortEdge_any wr b5 E (some ⟨b5,0,none⟩) k5 (fun _=>rfl) hH5 hk5 (by omega)).mono ?_
     rintro e w3 ⟨rfl,hg3,d2,hperm2,hsort2,hH2⟩
     have hd2:=sort2_one hperm2 hsort2
     have hl2:d2.length=E.length:=hperm2.length_eq
     rw[←hl2] at hk5 e5
     have hgb5:some (w.heap.size+1)≠some b5:=by simp;omega
     have e53:=hg3.cell e5 hgb5
     have hF3:Fld w2 w3 (w.heap.size+1) 5:=hF.step hg3 (fun k hk=>by injection hk with hk;omega)
     have hP2:PairsAt w3 b5 d2:=by have:=pairs_holds hH2;simpa using this
     have hf3:w3.frozen? ⟨w.heap.size+1,5,none⟩=false:=(hF3.frz 5).trans (hN2.fr 5)
     have HD2:=zN hd2
     rw[←hl2]
     have HL2:=zN (And.intro hl2 hlE)
     clear hd2 hperm2 hsort2 hH2 hH5 hF e5 hg3 hgb5 hl2
     go_wp2_with fail
     refine (compact_any w3 b5 d2 (some ⟨b5,0,none⟩) k5 (fun _=>rfl) hP2 hk5 (by have:=HL2.out.1;omega)).mono ?_
     rintro e w4 ⟨hg4,rfl,hP4⟩
     obtain⟨D,hD⟩:∃ D,D=comp d2 d2.length:=⟨_,rfl⟩
     rw[←hD] at hP4 ⊢
     have hDl:D.length≤15000:=by have:=comp_len d2 d2.length;have:=HL2.out.1;rw[hD];omega
     have HDD:=zN hD
     clear hD hP2
     have hF4:Fld w2 w4 (w.heap.size+1) 5:=hF3.step hg4 (fun k hk=>by injection hk with hk;omega)
     have hgb5:some (w.heap.size+1)≠some b5:=by simp;omega
     have e54:=hg4.cell e53 hgb5
     have f54:w4.frozen? ⟨w.heap.size+1,5,none⟩=false:=(hF4.frz 5).trans (hN2.fr 5)
     have f64:w4.frozen? ⟨w.heap.size+1,6,none⟩=false:=(hF4.frz 6).trans (hN2.fr 6)
     have e64:=(hF4.cells 6 (by omega)).trans e62
     obtain⟨vN,BN,n1,n2,n3,n4,n5⟩:=hN2.nd
     obtain⟨pN,kN,rfl,hkN⟩:=own_slice n3
     have n14:=(hF4.cells 2 (by omega)).trans n1
     obtain⟨M,hM⟩:∃ M,M=(nodesL n).length:=⟨_,rfl⟩
     have hMl:M≤2000:=by rw[hM];exact len_nodes h2
     rw[←hM] at n14 hkN
     have HM:=zN hM
     have HN2:=zN hN2
     clear n1 n2 n3 n4 n5 hM hN2 hg4 hF3 e53 hf3
     have hs4:w2.heap.size≤w4.heap.size:=hF4.size
     have hgl4:w.heap.size+1 < w4.heap.size:=by omega
     have hgn4:¬ (w.heap.size+1=w4.heap.size):=by omega
     have hmk:=run_make_row' (P:=Tryz.prog) 35 22 (.slice none 0 0) 24 Tryz.underlying35 (by kernel_rfl) rfl .i64 .i64 M (by omega) (by omega)
     go_wp2
     have hgs:((w4.setCell ⟨w.heap.size+1,5,none⟩ (.slice (some ⟨b5,0,none⟩) D.length k5)).setCell ⟨w.heap.size+1,6,none⟩ (.slice (some ⟨w4.heap.size,0,none⟩) M M)).heap.size=w4.heap.size:=by simp[World.setCell]
     obtain⟨WB,hWB⟩:∃ WB,WB=w4.setCell ⟨w.heap.size+1,5,none⟩ (.slice (some ⟨b5,0,none⟩) D.length k5):=⟨_,rfl⟩
     have hWBs:WB.heap.size=w4.heap.size:=by rw[hWB];simp[World.setCell]
     have hFB:Fld w2 WB (w.heap.size+1) 5:=by rw[hWB];exact hF4.set _
     have hPB:PairsAt WB b5 D:=by rw[hWB];exact hP4.kept (Below.heap_setCell _ _ _ b5 (by first|(simp;done)|(simp;omega)|omega))
     have e5B:WB.cell? ⟨w.heap.size+1,5,none⟩=some (.slice (some ⟨b5,0,none⟩) D.length k5):=by rw[hWB];exact zL _ _ _ (by rw[e54];rfl)
     have e6B:WB.cell? ⟨w.heap.size+1,6,none⟩=some (.slice none 0 0):=by rw[hWB];exact (by (try have hLt:=zM _ _ e64);(try simp only at hLt);(repeat first|rw[zO]|rw[zK _ _ _ _ (by first|(simp<;>omega)|omega)]|rw[zJ,if_neg (by first|(simp<;>omega)|omega)]);first|exact e64|(rw[zJ,if_pos (by first|(simp;done)|omega)];exact e64))
     have hDL:D=edgesL n:=by rw[HDD.out,HD2.out,HE.out,HD.out.1];rfl
     have hb5B:b5 < WB.heap.size:=by rw[hWBs];exact zM _ _ (hP4.c0 0 (by rw[hDL];exact edges_pos h1))
     have hDb:Hid (∀ e∈D,0≤e.1∧e.1 < M∧0≤e.2∧e.2 < M):=zN (by rw[hDL,HM.out];exact edges_in h1 h2)
     have HDL:=zN hDL
     clear hDL
     rw[←hWB]
     refine absW (F:=fun w'=>Fld WB w' (w.heap.size+1) 6∧w'.cell? ⟨w.heap.size+1,6,none⟩=some (.slice (some ⟨w4.heap.size,0,none⟩) M M)∧NextAt w' w4.heap.size M (w4.heap.size+1) (adjTo D 0)) ⟨?_,?_,?_⟩ ?_
     ·exact ((Fld.refl (by rw[hWBs];omega)).set _).alloc _
     ·have h9:(WB.setCell ⟨w.heap.size+1,6,none⟩ (.slice (some ⟨w4.heap.size,0,none⟩) M M)).cell? ⟨w.heap.size+1,6,none⟩=some (.slice (some ⟨w4.heap.size,0,none⟩) M M):=zL _ _ _ (by rw[e6B];rfl)
      exact (by (try have hLt:=zM _ _ h9);(try simp only at hLt);(repeat first|rw[zO]|rw[zK _ _ _ _ (by first|(simp<;>omega)|omega)]|rw[zJ,if_neg (by first|(simp<;>omega)|omega)]);first|exact h9|(rw[zJ,if_pos (by first|(simp;done)|omega)];exact h9))
     ·rw[adjTo_zero]
      have:=NextAt.made (WB.setCell ⟨w.heap.size+1,6,none⟩ (.slice (some ⟨w4.heap.size,0,none⟩) M M)) M (w4.heap.size+1)
      rwa[show (WB.setCell ⟨w.heap.size+1,6,none⟩ (.slice (some ⟨w4.heap.size,0,none⟩) M M)).heap.size=w4.heap.size by simp[World.setCell,hWBs]] at this
     rintro W5 ⟨hF5,e65,hX5⟩
     have HKEEP:=zN (And.intro hFB (And.intro hPB (And.intro e5B e6B)))
     clear hWB hgs hmk e54 f54 f64 e64 n14 hP4 hF4 hFB e5B e6B hg2
     go_loopw [124] (fun i wr=>∃ k:Nat,k≤D.length∧i=.int .i64 k∧Fld WB wr (w.heap.size+1) 6∧wr.cell? ⟨w.heap.size+1,6,none⟩=some (.slice (some ⟨w4.heap.size,0,none⟩) M M)∧NextAt wr w4.heap.size M (w4.heap.size+1) (adjTo D k)) (fun i _=>D.length-(intOf i).toNat)
     case atStart=>exact⟨0,by omega,rfl,hF5,e65,hX5⟩
     case round=>
      clear hF5 e65 hX5
      obtain⟨k,hk,rfl,hF,e6,hX⟩:=hrel
      by_cases hltk:k < D.length
      ·
       have hb5e:=hF.block (k:=b5) hb5B (by omega)
       have x0:=(World.cell?_of_block hb5e).trans (hPB.c0 k hltk)
       have x1:=(World.cell?_of_block hb5e).trans (hPB.c1 k hltk)
       obtain⟨c,hc⟩:∃ c,c=D[k]:=⟨_,rfl⟩
       obtain⟨g1,g2,g3,g4⟩:=hDb.out D[k] (List.getElem_mem _)
       rw[←hc] at x0 x1 g1 g2 g3 g4
       obtain⟨cA,cB'⟩:=c
       dsimp only at x0 x1 g1 g2 g3 g4
       obtain⟨ia,rfl⟩:∃ ia:Nat,cA=(ia:Int):=⟨cA.toNat,by omega⟩
       obtain⟨ib,rfl⟩:∃ ib:Nat,cB'=(ib:Int):=⟨cB'.toNat,by omega⟩
       have hia:ia < M:=by omega
       have hib:ib < M:=by omega
       have HC:Hid (adjTo D (k+1)=addTo (addTo (adjTo D k) ia (ib:Int)) ib (ia:Int)):=zN (by rw[adjTo_succ hltk,←hc];simp)
       have hlsA:∀ i,(adjTo D k i).length≤40000:=fun i=>by have:=adjTo_len D i k (by omega);omega
       have hlsB:∀ i,(addTo (adjTo D k) ia (ib:Int) i).length≤40000:=fun i=>by have:=adjTo_len D i k (by omega);have:=addTo_len (adjTo D k) ia (ib:Int) i;omega
       have hsw:=hF.size
       have hNl:=hX.lt
       have hgl:w.heap.size+1 < wr.heap.size:=by omega
       clear hc hb5e g1 g2 g3 g4
       go_wp2
       obtain⟨t10,ht10⟩:∃ t10,t10=wr.heap.size:=⟨_,rfl⟩
       have hTA:(wr.alloc (.cells #[.int .i64 (ia:Int),.int .i64 (ib:Int)] 139)).heap[t10]?=some (.cells #[.int .i64 (ia:Int),.int .i64 (ib:Int)] 139 (0,0)):=by rw[ht10];exact heap_alloc_new _ _
       have y0A:=blk_cell (j:=0) hTA rfl
       have y1A:=blk_cell (j:=1) hTA rfl
       have m6A:(wr.alloc (.cells #[.int .i64 (ia:Int),.int .i64 (ib:Int)] 139)).cell? ⟨w.heap.size+1,6,none⟩=some (.slice (some ⟨w4.heap.size,0,none⟩) M M):=(by (try have hLt:=zM _ _ e6);(try simp only at hLt);(repeat first|rw[zO]|rw[zK _ _ _ _ (by first|(simp<;>omega)|omega)]|rw[zJ,if_neg (by first|(simp<;>omega)|omega)]);first|exact e6|(rw[zJ,if_pos (by first|(simp;done)|omega)];exact e6))
       have hFxA:=hF.alloc (.cells #[.int .i64 (ia:Int),.int .i64 (ib:Int)] 139)
       have hXA:=hX.kept (World.grownBy_alloc wr (.cells #[.int .i64 (ia:Int),.int .i64 (ib:Int)] 139) none) (fun k e=>by cases e) hX.lt
       have hNt:w4.heap.size < t10:=by omega
       rw[←ht10]
       clear hF hX e6 x0 x1 ht10
       generalize hWa:wr.alloc (.cells #[.int .i64 (ia:Int),.int .i64 (ib:Int)] 139)=Wa at *
       clear hWa
       obtain⟨vsA,hrA,hoA,hdA⟩:=hXA
       obtain⟨paA,caA,hvaA,_⟩:=own_slice (hoA ia hia)
       have hcaA:=hrA.cell hia
       rw[hvaA] at hcaA
       have hfaA:=hrA.frozen ia
       have hoaA:=hoA ia hia
       rw[hvaA] at hoaA
       have hloA:∀ b,(Value.slice paA (adjTo D k ia).length caA).ownBlock=some b→w4.heap.size+1≤b∧b < Wa.heap.size:=hoaA.lt
       have hlnA:(adjTo D k ia).length≤40000:=hlsA ia
       obtain⟨lnaA,hlnaA⟩:∃ l,l=(adjTo D k ia).length:=⟨_,rfl⟩
       rw[←hlnaA] at hcaA hlnA hoaA hloA hvaA
       have hntA:some t10≠(Value.slice paA lnaA caA).ownBlock:=Ne.symm (row_ne hoaA hTA (by decide))
       have HLNA:=zN (And.intro hvaA hlnaA)
       have HXA:=zN (And.intro hrA (And.intro hoA hdA))
       clear hvaA hlnaA hrA hoA hdA hlsA
       refine RY.region RX.fN (fun w'=>w'.cell? ⟨w.heap.size+1,6,none⟩=some (.slice (some ⟨w4.heap.size,0,none⟩) M M)∧w'.cell? ⟨t10,0,none⟩=some (.int .i64 (ia:Int))∧w'.cell? ⟨t10,1,none⟩=some (.int .i64 (ib:Int))∧w'.cell? ⟨w4.heap.size,ia,none⟩=some (.slice paA lnaA caA)) (by kernel_rfl) (by kernel_rfl) (⟨m6A,y0A,y1A,hcaA⟩) (fun OPS HO QR hQR=>?_)
       repeat (refine zeY (fun R hR=>?_);(first|refine zaY (by first|rfl|(rw[HO.out];rfl)) (by simp only[zA,zB,zC,zD];rfl) ?_|refine zbY (by first|rfl|(rw[HO.out];rfl)) rfl (by first|exact .inl rfl|exact .inr rfl) (by simp only[zE,zF,zG,zH];rfl) (by simp only[zA,zB,zC,zD];rfl) ?_|refine zcY (by first|rfl|(rw[HO.out];rfl)) rfl rfl (by simp only[zE,zF,zG,zH];rfl) (by simp only[zA,zB,zC,zD];rfl) ?_|(refine zdY (by first|rfl|(rw[HO.out];rfl)) rfl rfl rfl ?_;apply zEx;apply zEx;refine⟨fun w' hS K hK=>?_,?_,?_⟩;(focus (obtain⟨hS1,hS2,hS3,hS4⟩:=hS;go_wp2;exact hK _ _ (by simp only[zl,zG,zH];first|exact zf (by omega)|exact zg (by omega)|exact zh (by omega)|exact zi (by omega)|exact zj (by omega)|exact zk (by omega)|exact RX.bneB _|rfl) rfl));(focus (simp only[zA,zB,zC,zD];rfl))));refine hR _ _ ?_;clear hR R)
       refine zeY (fun R hR=>?_)
       refine zgY (by first|rfl|(rw[HO.out];rfl)) rfl (fun K hK=>?_)
       go_wp2
       refine⟨.inr (⟨(by (try have hLt:=zM _ _ m6A);(try simp only at hLt);(repeat first|rw[zO]|rw[zK _ _ _ _ (by first|(simp<;>omega)|omega)]|rw[zJ,if_neg (by first|(simp<;>omega)|omega)]);first|exact m6A|(rw[zJ,if_pos (by first|(simp;done)|omega)];exact m6A)),(by (try have hLt:=zM _ _ y0A);(try simp only at hLt);(repeat first|rw[zO]|rw[zK _ _ _ _ (by first|(simp<;>omega)|omega)]|rw[zJ,if_neg (by first|(simp<;>omega)|omega)]);first|exact y0A|(rw[zJ,if_pos (by first|(simp;done)|omega)];exact y0A)),(by (try have hLt:=zM _ _ y1A);(try simp only at hLt);(repeat first|rw[zO]|rw[zK _ _ _ _ (by first|(simp<;>omega)|omega)]|rw[zJ,if_neg (by first|(simp<;>omega)|omega)]);first|exact y1A|(rw[zJ,if_pos (by first|(simp;done)|omega)];exact y1A)),(by (try have hLt:=zM _ _ hcaA);(try simp only at hLt);(repeat first|rw[zO]|rw[zK _ _ _ _ (by first|(simp<;>omega)|omega)]|rw[zJ,if_neg (by first|(simp<;>omega)|omega)]);first|exact hcaA|(rw[zJ,if_pos (by first|(simp;done)|omega)];exact hcaA))⟩),hR _ _ ?_⟩;clear hR R
       repeat (refine zeY (fun R hR=>?_);(first|refine zaY (by first|rfl|(rw[HO.out];rfl)) (by simp only[zA,zB,zC,zD];rfl) ?_|refine zbY (by first|rfl|(rw[HO.out];rfl)) rfl (by first|exact .inl rfl|exact .inr rfl) (by simp only[zE,zF,zG,zH];rfl) (by simp only[zA,zB,zC,zD];rfl) ?_|refine zcY (by first|rfl|(rw[HO.out];rfl)) rfl rfl (by simp only[zE,zF,zG,zH];rfl) (by simp only[zA,zB,zC,zD];rfl) ?_|(refine zdY (by first|rfl|(rw[HO.out];rfl)) rfl rfl rfl ?_;apply zEx;apply zEx;refine⟨fun w' hS K hK=>?_,?_,?_⟩;(focus (obtain⟨hS1,hS2,hS3,hS4⟩:=hS;go_wp2;exact hK _ _ (by simp only[zl,zG,zH];first|exact zf (by omega)|exact zg (by omega)|exact zh (by omega)|exact zi (by omega)|exact zj (by omega)|exact zk (by omega)|exact RX.bneB _|rfl) rfl));(focus (simp only[zA,zB,zC,zD];rfl))));refine hR _ _ ?_;clear hR R)
       refine zeY (fun R hR=>?_)
       refine zgY (by first|rfl|(rw[HO.out];rfl)) rfl (fun K hK=>?_)
       refine RX.wp_app elInt _ _ rfl (w4.heap.size+1) _ _ _ ((World.ownsRow.drew hoaA).alloc _) (by simp only[zE,zF,zG,zH]) Wa.heap.size _ 1 (by simp only[zE,zF,zG,zH]) (heap_alloc_new _ _) rfl (by simp[Value.oneCell']) (by omega) (by omega) (by have:=zM _ _ hcaA;simp at *;omega) (fun vnA wnA hownA hbnA hgnA hatA=>?_)
       have hgwA:Wa.grownBy wnA (Value.slice paA lnaA caA).ownBlock:=by
        have h0:Wa.grownBy (Wa.drew.alloc (.cells #[.int .i64 (ib:Int)] 3)) (Value.slice paA lnaA caA).ownBlock:=by
         have:=World.grownBy_alloc Wa.drew (.cells #[.int .i64 (ib:Int)] 3) (Value.slice paA lnaA caA).ownBlock
         exact⟨this.os,this.tape,this.output,this.size,this.block⟩
        exact h0.trans hgnA
       have hnNA:some w4.heap.size≠(Value.slice paA lnaA caA).ownBlock:=fun e=>by have:=(hloA _ e.symm).1;omega
       have hngA:some (w.heap.size+1)≠(Value.slice paA lnaA caA).ownBlock:=fun e=>by have:=(hloA _ e.symm).1;omega
       have hFnA:Fld WB wnA (w.heap.size+1) 6:=hFxA.step hgwA (fun b e=>by have:=(hloA b e).1;omega)
       have m6nA:=hgwA.cell m6A hngA
       have y0nA:=hgwA.cell y0A hntA
       have y1nA:=hgwA.cell y1A hntA
       have canA:=hgwA.cell hcaA hnNA
       have hTnA:=(hgwA.block _ (lt_of_block hTA) hntA).trans hTA
       have hfanA:wnA.frozen? ⟨w4.heap.size,ia,none⟩=false:=(zFb (hgwA.block _ (zM _ _ hcaA) hnNA)).trans hfaA
       obtain⟨pnA,cnA,hvnA,_⟩:=own_slice hownA
       subst hvnA
       have HNA:Hid (NextAt (wnA.setCell ⟨w4.heap.size,ia,none⟩ (.slice pnA (lnaA+1) cnA)) w4.heap.size M (w4.heap.size+1) (addTo (adjTo D k) ia (ib:Int))):=zN (by
        obtain⟨e1,e2⟩:=HLNA.out
        obtain⟨q1,q2,q3⟩:=HXA.out
        exact NextAt.push (b0:=(Wa.drew.alloc (.cells #[.int .i64 (ib:Int)] 3)).heap.size) q1 q2 q3 hia (by rw[e1];exact hgwA) (by rw[←e2];exact hownA) (by rw[e1];exact hatA) (by simp) (Nat.lt_succ_self _))
       clear hgnA hbnA hownA hatA
       refine hK _ _ ⟨.inr (⟨m6nA,y0nA,y1nA,canA⟩),?_⟩;clear hK K;refine RY.at_ (by simp only[RX.put_some,RX.put_none,List.set_cons_zero,List.set_cons_succ];rfl) (hR _ _ ?_);clear hR R
       repeat (refine zeY (fun R hR=>?_);(first|refine zaY (by first|rfl|(rw[HO.out];rfl)) (by simp only[zA,zB,zC,zD];rfl) ?_|refine zbY (by first|rfl|(rw[HO.out];rfl)) rfl (by first|exact .inl rfl|exact .inr rfl) (by simp only[zE,zF,zG,zH];rfl) (by simp only[zA,zB,zC,zD];rfl) ?_|refine zcY (by first|rfl|(rw[HO.out];rfl)) rfl rfl (by simp only[zE,zF,zG,zH];rfl) (by simp only[zA,zB,zC,zD];rfl) ?_|(refine zdY (by first|rfl|(rw[HO.out];rfl)) rfl rfl rfl ?_;apply zEx;apply zEx;refine⟨fun w' hS K hK=>?_,?_,?_⟩;(focus (obtain⟨hS1,hS2,hS3,hS4⟩:=hS;go_wp2;exact hK _ _ (by simp only[zl,zG,zH];first|exact zf (by omega)|exact zg (by omega)|exact zh (by omega)|exact zi (by omega)|exact zj (by omega)|exact zk (by omega)|exact RX.bneB _|rfl) rfl));(focus (simp only[zA,zB,zC,zD];rfl))));refine hR _ _ ?_;clear hR R)
       refine zeY (fun R hR=>?_)
       refine zgY (by first|rfl|(rw[HO.out];rfl)) rfl (fun K hK=>?_)
       go_wp2
       first|refine⟨(by first|exact .inl rfl|exact .inl trivial|trivial),hR _ _ (RY.wpL_nil (hQR _ _ ?_))⟩|refine hR _ _ (RY.wpL_nil (hQR _ _ ?_))|refine hQR _ _ ?_
       (try clear hR);(try clear R);clear hQR QR HO OPS
       go_wp2
       have hXB:=HNA.out
       have hTB:=(Below.heap_setCell wnA ⟨w4.heap.size,ia,none⟩ (.slice pnA (lnaA+1) cnA) t10 (by have:=zM _ _ hcaA;intro e;simp at e;omega)).trans hTnA
       have y0B:=blk_cell (j:=0) hTB rfl
       have y1B:=blk_cell (j:=1) hTB rfl
       have m6B:(wnA.setCell ⟨w4.heap.size,ia,none⟩ (.slice pnA (lnaA+1) cnA)).cell? ⟨w.heap.size+1,6,none⟩=some (.slice (some ⟨w4.heap.size,0,none⟩) M M):=(by (try have hLt:=zM _ _ m6nA);(try simp only at hLt);(repeat first|rw[zO]|rw[zK _ _ _ _ (by first|(simp<;>omega)|omega)]|rw[zJ,if_neg (by first|(simp<;>omega)|omega)]);first|exact m6nA|(rw[zJ,if_pos (by first|(simp;done)|omega)];exact m6nA))
       have hFxB:Fld WB (wnA.setCell ⟨w4.heap.size,ia,none⟩ (.slice pnA (lnaA+1) cnA)) (w.heap.size+1) 6:=hFnA.step (grownBy_setCell _ _ _ _) (fun k e=>by injection e with e;omega)
       generalize hWb:wnA.setCell ⟨w4.heap.size,ia,none⟩ (.slice pnA (lnaA+1) cnA)=Wb at *
       clear HNA hWb
       obtain⟨vsB,hrB,hoB,hdB⟩:=hXB
       obtain⟨paB,caB,hvaB,_⟩:=own_slice (hoB ib hib)
       have hcaB:=hrB.cell hib
       rw[hvaB] at hcaB
       have hfaB:=hrB.frozen ib
       have hoaB:=hoB ib hib
       rw[hvaB] at hoaB
       have hloB:∀ b,(Value.slice paB (addTo (adjTo D k) ia (ib:Int) ib).length caB).ownBlock=some b→w4.heap.size+1≤b∧b < Wb.heap.size:=hoaB.lt
       have hlnB:(addTo (adjTo D k) ia (ib:Int) ib).length≤40000:=hlsB ib
       obtain⟨lnaB,hlnaB⟩:∃ l,l=(addTo (adjTo D k) ia (ib:Int) ib).length:=⟨_,rfl⟩
       rw[←hlnaB] at hcaB hlnB hoaB hloB hvaB
       have hntB:some t10≠(Value.slice paB lnaB caB).ownBlock:=Ne.symm (row_ne hoaB hTB (by decide))
       have HLNB:=zN (And.intro hvaB hlnaB)
       have HXB:=zN (And.intro hrB (And.intro hoB hdB))
       clear hvaB hlnaB hrB hoB hdB hlsB
       refine RY.region RX.fN (fun w'=>w'.cell? ⟨w.heap.size+1,6,none⟩=some (.slice (some ⟨w4.heap.size,0,none⟩) M M)∧w'.cell? ⟨t10,0,none⟩=some (.int .i64 (ia:Int))∧w'.cell? ⟨t10,1,none⟩=some (.int .i64 (ib:Int))∧w'.cell? ⟨w4.heap.size,ib,none⟩=some (.slice paB lnaB caB)) (by kernel_rfl) (by kernel_rfl) (⟨m6B,y0B,y1B,hcaB⟩) (fun OPS HO QR hQR=>?_)
       repeat (refine zeY (fun R hR=>?_);(first|refine zaY (by first|rfl|(rw[HO.out];rfl)) (by simp only[zA,zB,zC,zD];rfl) ?_|refine zbY (by first|rfl|(rw[HO.out];rfl)) rfl (by first|exact .inl rfl|exact .inr rfl) (by simp only[zE,zF,zG,zH];rfl) (by simp only[zA,zB,zC,zD];rfl) ?_|refine zcY (by first|rfl|(rw[HO.out];rfl)) rfl rfl (by simp only[zE,zF,zG,zH];rfl) (by simp only[zA,zB,zC,zD];rfl) ?_|(refine zdY (by first|rfl|(rw[HO.out];rfl)) rfl rfl rfl ?_;apply zEx;apply zEx;refine⟨fun w' hS K hK=>?_,?_,?_⟩;(focus (obtain⟨hS1,hS2,hS3,hS4⟩:=hS;go_wp2;exact hK _ _ (by simp only[zl,zG,zH];first|exact zf (by omega)|exact zg (by omega)|exact zh (by omega)|exact zi (by omega)|exact zj (by omega)|exact zk (by omega)|exact RX.bneB _|rfl) rfl));(focus (simp only[zA,zB,zC,zD];rfl))));refine hR _ _ ?_;clear hR R)
       refine zeY (fun R hR=>?_)
       refine zgY (by first|rfl|(rw[HO.out];rfl)) rfl (fun K hK=>?_)
       go_wp2
       refine⟨.inr (⟨(by (try have hLt:=zM _ _ m6B);(try simp only at hLt);(repeat first|rw[zO]|rw[zK _ _ _ _ (by first|(simp<;>omega)|omega)]|rw[zJ,if_neg (by first|(simp<;>omega)|omega)]);first|exact m6B|(rw[zJ,if_pos (by first|(simp;done)|omega)];exact m6B)),(by (try have hLt:=zM _ _ y0B);(try simp only at hLt);(repeat first|rw[zO]|rw[zK _ _ _ _ (by first|(simp<;>omega)|omega)]|rw[zJ,if_neg (by first|(simp<;>omega)|omega)]);first|exact y0B|(rw[zJ,if_pos (by first|(simp;done)|omega)];exact y0B)),(by (try have hLt:=zM _ _ y1B);(try simp only at hLt);(repeat first|rw[zO]|rw[zK _ _ _ _ (by first|(simp<;>omega)|omega)]|rw[zJ,if_neg (by first|(simp<;>omega)|omega)]);first|exact y1B|(rw[zJ,if_pos (by first|(simp;done)|omega)];exact y1B)),(by (try have hLt:=zM _ _ hcaB);(try simp only at hLt);(repeat first|rw[zO]|rw[zK _ _ _ _ (by first|(simp<;>omega)|omega)]|rw[zJ,if_neg (by first|(simp<;>omega)|omega)]);first|exact hcaB|(rw[zJ,if_pos (by first|(simp;done)|omega)];exact hcaB))⟩),hR _ _ ?_⟩;clear hR R
       repeat (refine zeY (fun R hR=>?_);(first|refine zaY (by first|rfl|(rw[HO.out];rfl)) (by simp only[zA,zB,zC,zD];rfl) ?_|refine zbY (by first|rfl|(rw[HO.out];rfl)) rfl (by first|exact .inl rfl|exact .inr rfl) (by simp only[zE,zF,zG,zH];rfl) (by simp only[zA,zB,zC,zD];rfl) ?_|refine zcY (by first|rfl|(rw[HO.out];rfl)) rfl rfl (by simp only[zE,zF,zG,zH];rfl) (by simp only[zA,zB,zC,zD];rfl) ?_|(refine zdY (by first|rfl|(rw[HO.out];rfl)) rfl rfl rfl ?_;apply zEx;apply zEx;refine⟨fun w' hS K hK=>?_,?_,?_⟩;(focus (obtain⟨hS1,hS2,hS3,hS4⟩:=hS;go_wp2;exact hK _ _ (by simp only[zl,zG,zH];first|exact zf (by omega)|exact zg (by omega)|exact zh (by omega)|exact zi (by omega)|exact zj (by omega)|exact zk (by omega)|exact RX.bneB _|rfl) rfl));(focus (simp only[zA,zB,zC,zD];rfl))));refine hR _ _ ?_;clear hR R)
       refine zeY (fun R hR=>?_)
       refine zgY (by first|rfl|(rw[HO.out];rfl)) rfl (fun K hK=>?_)
       refine RX.wp_app elInt _ _ rfl (w4.heap.size+1) _ _ _ ((World.ownsRow.drew hoaB).alloc _) (by simp only[zE,zF,zG,zH]) Wb.heap.size _ 1 (by simp only[zE,zF,zG,zH]) (heap_alloc_new _ _) rfl (by simp[Value.oneCell']) (by omega) (by omega) (by have:=zM _ _ hcaB;simp at *;omega) (fun vnB wnB hownB hbnB hgnB hatB=>?_)
       have hgwB:Wb.grownBy wnB (Value.slice paB lnaB caB).ownBlock:=by
        have h0:Wb.grownBy (Wb.drew.alloc (.cells #[.int .i64 (ia:Int)] 3)) (Value.slice paB lnaB caB).ownBlock:=by
         have:=World.grownBy_alloc Wb.drew (.cells #[.int .i64 (ia:Int)] 3) (Value.slice paB lnaB caB).ownBlock
         exact⟨this.os,this.tape,this.output,this.size,this.block⟩
        exact h0.trans hgnB
       have hnNB:some w4.heap.size≠(Value.slice paB lnaB caB).ownBlock:=fun e=>by have:=(hloB _ e.symm).1;omega
       have hngB:some (w.heap.size+1)≠(Value.slice paB lnaB caB).ownBlock:=fun e=>by have:=(hloB _ e.symm).1;omega
       have hFnB:Fld WB wnB (w.heap.size+1) 6:=hFxB.step hgwB (fun b e=>by have:=(hloB b e).1;omega)
       have m6nB:=hgwB.cell m6B hngB
       have y0nB:=hgwB.cell y0B hntB
       have y1nB:=hgwB.cell y1B hntB
       have canB:=hgwB.cell hcaB hnNB
       have hTnB:=(hgwB.block _ (lt_of_block hTB) hntB).trans hTB
       have hfanB:wnB.frozen? ⟨w4.heap.size,ib,none⟩=false:=(zFb (hgwB.block _ (zM _ _ hcaB) hnNB)).trans hfaB
       obtain⟨pnB,cnB,hvnB,_⟩:=own_slice hownB
       subst hvnB
       have HNB:Hid (NextAt (wnB.setCell ⟨w4.heap.size,ib,none⟩ (.slice pnB (lnaB+1) cnB)) w4.heap.size M (w4.heap.size+1) (addTo (addTo (adjTo D k) ia (ib:Int)) ib (ia:Int))):=zN (by
        obtain⟨e1,e2⟩:=HLNB.out
        obtain⟨q1,q2,q3⟩:=HXB.out
        exact NextAt.push (b0:=(Wb.drew.alloc (.cells #[.int .i64 (ia:Int)] 3)).heap.size) q1 q2 q3 hib (by rw[e1];exact hgwB) (by rw[←e2];exact hownB) (by rw[e1];exact hatB) (by simp) (Nat.lt_succ_self _))
       clear hgnB hbnB hownB hatB
       refine hK _ _ ⟨.inr (⟨m6nB,y0nB,y1nB,canB⟩),?_⟩;clear hK K;refine RY.at_ (by simp only[RX.put_some,RX.put_none,List.set_cons_zero,List.set_cons_succ];rfl) (hR _ _ ?_);clear hR R
       repeat (refine zeY (fun R hR=>?_);(first|refine zaY (by first|rfl|(rw[HO.out];rfl)) (by simp only[zA,zB,zC,zD];rfl) ?_|refine zbY (by first|rfl|(rw[HO.out];rfl)) rfl (by first|exact .inl rfl|exact .inr rfl) (by simp only[zE,zF,zG,zH];rfl) (by simp only[zA,zB,zC,zD];rfl) ?_|refine zcY (by first|rfl|(rw[HO.out];rfl)) rfl rfl (by simp only[zE,zF,zG,zH];rfl) (by simp only[zA,zB,zC,zD];rfl) ?_|(refine zdY (by first|rfl|(rw[HO.out];rfl)) rfl rfl rfl ?_;apply zEx;apply zEx;refine⟨fun w' hS K hK=>?_,?_,?_⟩;(focus (obtain⟨hS1,hS2,hS3,hS4⟩:=hS;go_wp2;exact hK _ _ (by simp only[zl,zG,zH];first|exact zf (by omega)|exact zg (by omega)|exact zh (by omega)|exact zi (by omega)|exact zj (by omega)|exact zk (by omega)|exact RX.bneB _|rfl) rfl));(focus (simp only[zA,zB,zC,zD];rfl))));refine hR _ _ ?_;clear hR R)
       refine zeY (fun R hR=>?_)
       refine zgY (by first|rfl|(rw[HO.out];rfl)) rfl (fun K hK=>?_)
       go_wp2
       first|refine⟨(by first|exact .inl rfl|exact .inl trivial|trivial),hR _ _ (RY.wpL_nil (hQR _ _ ?_))⟩|refine hR _ _ (RY.wpL_nil (hQR _ _ ?_))|refine hQR _ _ ?_
       (try clear hR);(try clear R);clear hQR QR HO OPS
       go_wp2
       have m6E:(wnB.setCell ⟨w4.heap.size,ib,none⟩ (.slice pnB (lnaB+1) cnB)).cell? ⟨w.heap.size+1,6,none⟩=some (.slice (some ⟨w4.heap.size,0,none⟩) M M):=(by (try have hLt:=zM _ _ m6nB);(try simp only at hLt);(repeat first|rw[zO]|rw[zK _ _ _ _ (by first|(simp<;>omega)|omega)]|rw[zJ,if_neg (by first|(simp<;>omega)|omega)]);first|exact m6nB|(rw[zJ,if_pos (by first|(simp;done)|omega)];exact m6nB))
       have hFE:Fld WB (wnB.setCell ⟨w4.heap.size,ib,none⟩ (.slice pnB (lnaB+1) cnB)) (w.heap.size+1) 6:=hFnB.step (grownBy_setCell _ _ _ _) (fun k e=>by injection e with e;omega)
       go_roundw
       case rel=>exact⟨k+1,by omega,by go_num,hFE,m6E,by rw[HC.out];exact HNB.out⟩
       case measure=>simp[intOf];omega
      ·obtain rfl:k=D.length:=by omega
       have hR:=NextR.of_next hX
       have hlsD:∀ i,(adjTo D D.length i).length≤40000:=fun i=>by have:=adjTo_len D i D.length (Nat.le_refl _);omega
       have hNl:=hX.lt
       have hsw:=hF.size
       clear hX
       go_wp2
       go_loopw [172] (fun i wr=>∃ k:Nat,k≤M∧i=.int .i64 k∧Fld WB wr (w.heap.size+1) 6∧wr.cell? ⟨w.heap.size+1,6,none⟩=some (.slice (some ⟨w4.heap.size,0,none⟩) M M)∧NextR wr w4.heap.size M (w4.heap.size+1) (fun i=>if i < k then sorted (adjTo D D.length i) else adjTo D D.length i)) (fun i _=>M-(intOf i).toNat)
       case atStart=>exact⟨0,by omega,rfl,hF,e6,hR.congr (fun i _=>by simp)⟩
       case round=>
        clear hF e6 hR hNl hsw
        obtain⟨k,hk,rfl,hF,e6,hR⟩:=hrel
        by_cases hltk:k < M
        ·have hRl:=hR.lt
         obtain⟨vs,r1,r2,r3⟩:=hR
         obtain⟨⟨pk,ck,bk,hvk,_,_,_⟩,_⟩:=r2 k hltk
         have ck1:=r1.cell hltk
         have hS:=sortRow_any (Nat.lt_succ_self _) r1 r2 r3 hltk (by simp;have:=hlsD k;omega)
         rw[hvk] at ck1 hS
         have HS:=zN hS
         clear hS r1 r2 r3 hvk
         simp only[Nat.lt_irrefl,if_false] at ck1
         go_wp2_with fail
         have hS:=HS.out
         simp only[Nat.lt_irrefl,if_false] at hS
         refine hS.mono ?_
         rintro e w7 ⟨rfl,⟨b7,hg7,hb7⟩,hR7⟩
         clear hS HS
         have hsz:=hF.size
         have hF7:=hF.step hg7 (fun b e=>by injection e with e;omega)
         have e67:=hg7.cell e6 (by simp;omega)
         have HR7:Hid (NextR w7 w4.heap.size M (w4.heap.size+1) (fun i=>if i < k+1 then sorted (adjTo D D.length i) else adjTo D D.length i)):=zN (hR7.congr (fun i _=>by
          unfold setTo
          by_cases hik:i=k
          ·subst hik;simp
          ·rw[if_neg hik]
           dsimp only
           by_cases h:i < k
           ·rw[if_pos h,if_pos (by omega)]
           ·rw[if_neg h,if_neg (by omega)]))
         clear hR7 hF hg7
         go_wp2
         go_roundw
         case rel=>exact⟨k+1,by omega,by go_num,hF7,e67,HR7.out⟩
         case measure=>simp[intOf];omega
        ·obtain rfl:k=M:=by omega
         obtain⟨hFB,hPB',e5B,e6B⟩:=HKEEP.out
         have hB2':=hFB.size
         go_wp2
         go_ret
         have hb4l:b4 < w2.heap.size:=by omega
         have hb4e:wr.heap[b4]?=w2.heap[b4]?:=(hF.block (by omega) (by omega)).trans (hFB.block hb4l (by omega))
         have hb5e:=hF.block (k:=b5) hb5B (by omega)
         refine⟨rfl,⟨hF.net (by omega) (hFB.net (by omega) HN2.out),⟨b4,k4,?_,?_,?_,by omega⟩,⟨b5,k5,?_,?_,?_,by omega⟩,⟨w4.heap.size,?_,?_,by omega⟩⟩,?_⟩
         ·rw[show (cellsS n).length=d3.length by rw[HD.out.1];rfl]
          exact (hF.cells 4 (by omega)).trans ((hFB.cells 4 (by omega)).trans e42)
         ·rw[show (cellsS n).length=d3.length by rw[HD.out.1];rfl]
          exact hk4
         ·have h9:=HD.out.2
          rw[HD.out.1] at h9
          exact fun j hj=>⟨(World.cell?_of_block hb4e).trans (h9 j hj).1,(zFb hb4e).trans (h9 j hj).2⟩
         ·rw[←HDL.out]
          exact (hF.cells 5 (by omega)).trans e5B
         ·rw[←HDL.out]
          have h9:=comp_len d2 d2.length
          rw[←HDD.out] at h9
          omega
         ·rw[←HDL.out]
          exact hPB'.kept hb5e
         ·rw[←HM.out];exact e6
         ·rw[←HM.out]
          refine hR.congr (fun i hi=>?_)
          rw[if_pos hi];unfold nextL;rw[←HDL.out]
         ·exact (hB2.trans (hFB.bel (by omega))).trans (hF.bel (by omega))
end Go.Proofs.YtednaajanciabaaGreatDoor
