/- What the walks over a value's parts want of the model. Plain, but for a value's shape in memory. (and what it stands on) -/
import Derived.Test.YtcgmnagcgkhogaaGreatDoorZ2
import Derived.Shelf.Strings.Cut
import Derived.Shelf.Strings.Search3
import Derived.Shelf.Strings.Split
import Derived.Shelf.Unicode.ValidAny
import Derived.Test.YtcgmnagcgkhogaaGreatDoorCards
import Derived.Test.YtcgmnagcgkhogaaGreatDoorTie
import Derived.ProofKit
import Derived.OpenShut
import Derived.LaidMore
import Derived.Lay
import Derived.SevenTiedAt
import Derived.Stop.Joined
import Derived.Stop.LaidErr
import Derived.LaidLaws
import Derived.Lib.LaidTab
import Derived.Lib.LaidU8T
import Derived.ChangeMaps5
import Derived.ChangeSlices
import Derived.Carry
import Derived.Shelf.Vars
import Derived.HandedShaped
import Derived.Lib.Split
namespace Go.Proofs
open Go.Shelf
def Tryz.lays144_ren:Go.Shelf.Ren:=⟨fun | 144=>65 | 143=>88 | 219=>105 | 217=>107 | 225=>117 | 224=>118 | 267=>119 | 266=>122 | 314=>132 | n=>n,fun | 9=>9 | 4=>4 | 3=>3 | 5=>5 | 46=>107 | 146=>186 | 51=>138 | n=>n,fun | 1=>2 | n=>n⟩
theorem Tryz.lays144:Go.Proofs.Lays.n144 Tryz.prog Tryz.lays144_ren:={
 mixed:=by kernel_rfl
 f143:=Tryz.func88.trans (congrArg some (by kernel_rfl))
 f144:=Tryz.func65.trans (congrArg some (by kernel_rfl))
 f217:=Tryz.func107.trans (congrArg some (by kernel_rfl))
 f219:=Tryz.func105.trans (congrArg some (by kernel_rfl))
 f224:=Tryz.func118.trans (congrArg some (by kernel_rfl))
 f225:=Tryz.func117.trans (congrArg some (by kernel_rfl))
 f266:=Tryz.func122.trans (congrArg some (by kernel_rfl))
 f267:=Tryz.func119.trans (congrArg some (by kernel_rfl))
 f314:=Tryz.func132.trans (congrArg some (by kernel_rfl))
 t3:=Tryz.underlying3
 a3:=Tryz.isAgg3
 z3:=Tryz.sizeOf3
 v3:=Tryz.zeroValue3
 t4:=Tryz.underlying4
 a4:=Tryz.isAgg4
 z4:=Tryz.sizeOf4
 v4:=Tryz.zeroValue4
 t5:=Tryz.underlying5
 a5:=Tryz.isAgg5
 z5:=Tryz.sizeOf5
 v5:=Tryz.zeroValue5
 t9:=Tryz.underlying9
 a9:=Tryz.isAgg9
 z9:=Tryz.sizeOf9
 v9:=Tryz.zeroValue9
 t46:=Tryz.underlying107
 a46:=Tryz.isAgg107
 z46:=Tryz.sizeOf107
 v46:=Tryz.zeroValue107
 t51:=Tryz.underlying138
 a51:=Tryz.isAgg138
 z51:=Tryz.sizeOf138
 v51:=Tryz.zeroValue138
 t146:=Tryz.underlying186
 a146:=Tryz.isAgg186
 z146:=Tryz.sizeOf186
 v146:=Tryz.zeroValue186
 g1:=by kernel_rfl }
open Go.RowKit Go.Lib in
/-- strings.Contains: "Contains reports whether substr is within s.": IT RETURNS 'Lib.contains s substr'; the world is as it was. (LAID: no walk: one application.) -/
theorem Tryz.strings_Contains (s sub:ByteArray) (m:Int) (w:World) (hs:s.size<4294967281) (hm:w.cell? ⟨2,0,none⟩=some (.int .i64 m)) :
 Calls Tryz.prog 65 #[.string s,.string sub] w fun e w'=>e=.returned (.bool (Lib.contains s.data.toList sub.data.toList))∧w'=w:=Any.strings_Contains Tryz.lays144 s sub m w hs hm
def Tryz.lays145_ren:Go.Shelf.Ren:=⟨fun | 145=>72 | 220=>95 | 219=>105 | 217=>107 | 225=>117 | 224=>118 | 267=>119 | 266=>122 | 314=>132 | n=>n,fun | 9=>9 | 4=>4 | 59=>69 | 3=>3 | 5=>5 | 46=>107 | 146=>186 | 51=>138 | n=>n,fun | 1=>2 | n=>n⟩
theorem Tryz.lays145:Go.Proofs.Lays.n145 Tryz.prog Tryz.lays145_ren:={
 mixed:=by kernel_rfl
 f145:=Tryz.func72.trans (congrArg some (by kernel_rfl))
 f217:=Tryz.func107.trans (congrArg some (by kernel_rfl))
 f219:=Tryz.func105.trans (congrArg some (by kernel_rfl))
 f220:=Tryz.func95.trans (congrArg some (by kernel_rfl))
 f224:=Tryz.func118.trans (congrArg some (by kernel_rfl))
 f225:=Tryz.func117.trans (congrArg some (by kernel_rfl))
 f266:=Tryz.func122.trans (congrArg some (by kernel_rfl))
 f267:=Tryz.func119.trans (congrArg some (by kernel_rfl))
 f314:=Tryz.func132.trans (congrArg some (by kernel_rfl))
 t3:=Tryz.underlying3
 a3:=Tryz.isAgg3
 z3:=Tryz.sizeOf3
 v3:=Tryz.zeroValue3
 t4:=Tryz.underlying4
 a4:=Tryz.isAgg4
 z4:=Tryz.sizeOf4
 v4:=Tryz.zeroValue4
 t5:=Tryz.underlying5
 a5:=Tryz.isAgg5
 z5:=Tryz.sizeOf5
 v5:=Tryz.zeroValue5
 t9:=Tryz.underlying9
 a9:=Tryz.isAgg9
 z9:=Tryz.sizeOf9
 v9:=Tryz.zeroValue9
 t46:=Tryz.underlying107
 a46:=Tryz.isAgg107
 z46:=Tryz.sizeOf107
 v46:=Tryz.zeroValue107
 t51:=Tryz.underlying138
 a51:=Tryz.isAgg138
 z51:=Tryz.sizeOf138
 v51:=Tryz.zeroValue138
 t59:=Tryz.underlying69
 a59:=Tryz.isAgg69
 z59:=Tryz.sizeOf69
 v59:=Tryz.zeroValue69
 t146:=Tryz.underlying186
 a146:=Tryz.isAgg186
 z146:=Tryz.sizeOf186
 v146:=Tryz.zeroValue186
 g1:=by kernel_rfl }
open Go.RowKit Go.Lib in
/-- strings.Cut: "Cut slices s around the first instance of sep, returning the text before and after sep. The found result reports whether sep appears in s. If sep does not appear in s, cut returns s, "", false.": IT RETURNS 'Lib.cut s sep'; the world is as it was but for the count of draws. (LAID: no walk: one application.) -/
theorem Tryz.strings_Cut (s sep:ByteArray) (m:Int) (w:World) (hs:s.size<4294967281) (hm:w.cell? ⟨2,0,none⟩=some (.int .i64 m)) :
 Calls Tryz.prog 72 #[.string s,.string sep] w fun e w'=>e=.returned (.tuple #[.string ⟨(Lib.cut s.data.toList sep.data.toList).1.toArray⟩,.string ⟨(Lib.cut s.data.toList sep.data.toList).2.1.toArray⟩,.bool (Lib.cut s.data.toList sep.data.toList).2.2])∧∃ n,w'=w.drewN n:=Any.strings_Cut Tryz.lays145 s sep m w hs hm
def Tryz.lays146_ren:Go.Shelf.Ren:=⟨fun | 146=>89 | 221=>106 | 268=>120 | 138=>121 | 143=>88 | 195=>133 | 197=>103 | 218=>134 | 219=>105 | 260=>115 | 217=>107 | 225=>117 | 224=>118 | 267=>119 | 266=>122 | 314=>132 | n=>n,fun | 9=>9 | 31=>131 | 3=>3 | 4=>4 | 0=>0 | 105=>159 | 21=>21 | 5=>5 | 46=>107 | 119=>103 | 139=>106 | 138=>105 | 146=>186 | 51=>138 | n=>n,fun | 1=>2 | 3=>0 | 4=>1 | n=>n⟩
theorem Tryz.lays146:Go.Proofs.Lays.n146 Tryz.prog Tryz.lays146_ren:={
 mixed:=by kernel_rfl
 f138:=Tryz.func121.trans (congrArg some (by kernel_rfl))
 f143:=Tryz.func88.trans (congrArg some (by kernel_rfl))
 f146:=Tryz.func89.trans (congrArg some (by kernel_rfl))
 f195:=Tryz.func133.trans (congrArg some (by kernel_rfl))
 f197:=Tryz.func103.trans (congrArg some (by kernel_rfl))
 f217:=Tryz.func107.trans (congrArg some (by kernel_rfl))
 f218:=Tryz.func134.trans (congrArg some (by kernel_rfl))
 f219:=Tryz.func105.trans (congrArg some (by kernel_rfl))
 f221:=Tryz.func106.trans (congrArg some (by kernel_rfl))
 f224:=Tryz.func118.trans (congrArg some (by kernel_rfl))
 f225:=Tryz.func117.trans (congrArg some (by kernel_rfl))
 f260:=Tryz.func115.trans (congrArg some (by kernel_rfl))
 f266:=Tryz.func122.trans (congrArg some (by kernel_rfl))
 f267:=Tryz.func119.trans (congrArg some (by kernel_rfl))
 f268:=Tryz.func120.trans (congrArg some (by kernel_rfl))
 f314:=Tryz.func132.trans (congrArg some (by kernel_rfl))
 t0:=Tryz.underlying0
 a0:=Tryz.isAgg0
 z0:=Tryz.sizeOf0
 v0:=Tryz.zeroValue0
 t3:=Tryz.underlying3
 a3:=Tryz.isAgg3
 z3:=Tryz.sizeOf3
 v3:=Tryz.zeroValue3
 t4:=Tryz.underlying4
 a4:=Tryz.isAgg4
 z4:=Tryz.sizeOf4
 v4:=Tryz.zeroValue4
 t5:=Tryz.underlying5
 a5:=Tryz.isAgg5
 z5:=Tryz.sizeOf5
 v5:=Tryz.zeroValue5
 t9:=Tryz.underlying9
 a9:=Tryz.isAgg9
 z9:=Tryz.sizeOf9
 v9:=Tryz.zeroValue9
 t21:=Tryz.underlying21
 a21:=Tryz.isAgg21
 z21:=Tryz.sizeOf21
 v21:=Tryz.zeroValue21
 t31:=Tryz.underlying131
 a31:=Tryz.isAgg131
 z31:=Tryz.sizeOf131
 v31:=Tryz.zeroValue131
 t46:=Tryz.underlying107
 a46:=Tryz.isAgg107
 z46:=Tryz.sizeOf107
 v46:=Tryz.zeroValue107
 t51:=Tryz.underlying138
 a51:=Tryz.isAgg138
 z51:=Tryz.sizeOf138
 v51:=Tryz.zeroValue138
 t105:=Tryz.underlying159
 a105:=Tryz.isAgg159
 z105:=Tryz.sizeOf159
 v105:=Tryz.zeroValue159
 t119:=Tryz.underlying103
 a119:=Tryz.isAgg103
 z119:=Tryz.sizeOf103
 t138:=Tryz.underlying105
 a138:=Tryz.isAgg105
 z138:=Tryz.sizeOf105
 v138:=Tryz.zeroValue105
 t139:=Tryz.underlying106
 a139:=Tryz.isAgg106
 z139:=Tryz.sizeOf106
 v139:=Tryz.zeroValue106
 t146:=Tryz.underlying186
 a146:=Tryz.isAgg186
 z146:=Tryz.sizeOf186
 v146:=Tryz.zeroValue186
 g1:=by kernel_rfl
 g3:=by kernel_rfl
 g4:=by kernel_rfl }
open Go.RowKit Go.Lib in
/-- strings.Split. (LAID: no walk: one application.) -/
theorem Tryz.strings_Split (s sep:ByteArray) (m:Int) (w:World) (hs:s.size<4294967281) (hm:w.cell? ⟨2,0,none⟩=some (.int .i64 m)) (h1:1≤sep.size) :
 Calls Tryz.prog 89 #[.string s,.string sep] w fun e w' =>
  e=.returned (.slice (some ⟨w.heap.size,0,none⟩) (Lib.countB s sep+1) (Lib.countB s sep+1))∧w'=w.alloc (.cells ((Lib.splitB sep 0 (Lib.countB s sep) s).map Value.string).toArray 9):=Any.strings_Split Tryz.lays146 (by kernel_rfl) s sep m w hs hm h1
end Go.Proofs
namespace Go.Proofs.YtcgmnagcgkhogaaGreatDoor
open Go.Sw Go.Sha Go.Esc Go.RowKit Go.Json Go.Xml
structure T8 (W0:World):Prop where
 base:V4 W0
 max:∃ m,2<W0.heap.size∧W0.cell? ⟨2,0,none⟩=some (.int .i64 m)
def rdX (r:Nat) (q:XS):Grp:=[(r,.cells #[.string (bk q.1),.int .i64 q.2] 44 (0,0))]
theorem trimX (l:List UInt8) (W0:World) (H:List Grp):Tri Tryz.prog 60 #[.string (bk l),.string (mB #[32,9,13,10])] W0 H (fun v H'=>v=.string (bk (blk l))∧H'=H) :=
 Tri_below (fun w _=>(Any.strings_TrimLeft_laid Tryz.lays161 (by kernel_rfl) (bk l) _ w (by decide) (ascii_of_all (by decide))).mono fun _ _ ⟨h1,h2⟩=>⟨by rw [h1,show Lib.trimLeftS (bk l).data.toList (mB #[32,9,13,10]).data.toList=blk l from blk_trimX _],h2⟩)
theorem cutW (w l:List UInt8) (hl:l.length≤1000000000) (W0:World) (H:List Grp) (hX:T8 W0):Tri Tryz.prog 72 #[.string (bk l),.string (bk w)] W0 H (fun v H'=>((idxL w l=none∧v=.tuple #[.string (bk l),.string eB,.bool false])∨∃ i,idxL w l=some i∧v=.tuple #[.string (bk (l.take i)),.string (bk (l.drop (i+w.length))),.bool true])∧H'=H):=by
 obtain ⟨m,h1,h2⟩:=hX.max
 have key:∀ v0,v0=Value.tuple #[.string ⟨(Lib.cut l w).1.toArray⟩,.string ⟨(Lib.cut l w).2.1.toArray⟩,.bool (Lib.cut l w).2.2]→Tri Tryz.prog 72 #[.string (bk l),.string (bk w)] W0 H (fun v H'=>v=v0∧H'=H):=fun v0 h0 =>
  Tri_below (fun w' hs=>(Tryz.strings_Cut (bk l) (bk w) m w' (by rw [D0]; omega) (cell_base hs h1 h2)).mono fun _ w2 ⟨h3,n,h4⟩=>⟨by rw [h3,h0],by rw [h4]; exact ⟨rfl,rfl,rfl,Nat.le_refl _,fun _ _=>rfl⟩⟩)
 refine (key _ rfl).post fun v H' ⟨hv,hH⟩=>⟨H',⟨?_,hH⟩,fun _ h=>h⟩
 cases hI:idxL w l with
 | none=>exact .inl ⟨rfl,by rw [hv,Go.Xml.cut_none hI]⟩
 | some i=>exact .inr ⟨i,rfl,by rw [hv,Go.Xml.cut_some hI]⟩
theorem hasW (w l:List UInt8) (hl:l.length≤1000000000) (W0:World) (H:List Grp) (hX:T8 W0):Tri Tryz.prog 65 #[.string (bk l),.string (bk w)] W0 H (fun v H'=>v=.bool (idxL w l).isSome∧H'=H):=by
 obtain ⟨m,h1,h2⟩:=hX.max
 exact Tri_below (fun w' hs=>(Tryz.strings_Contains (bk l) (bk w) m w' (by rw [D0]; omega) (cell_base hs h1 h2)).mono fun _ w2 ⟨h3,h4⟩=>⟨by rw [h3,← contains_idx],by rw [h4]; exact ⟨rfl,rfl,rfl,Nat.le_refl _,fun _ _=>rfl⟩⟩)
theorem toNat_ext (l:List UInt8) (n:Nat):(bk l).extract 0 (Int.toNat (n:Int))=bk (l.take n):=by rw [Int.toNat_natCast,ext_bkT]
theorem toNat_extD (l:List UInt8) (n:Nat):(bk l).extract (Int.toNat (n:Int)) (bk l).size=bk (l.drop n):=by rw [Int.toNat_natCast,ext_bk]
theorem O1 (r:Nat) (q:XS) (n:Int) (W0:World) (H:List Grp):Tri Tryz.prog 18 #[pt r,.int .i64 n] W0 ([(r,.cells #[.string (bk q.1),.int .i64 q.2] 44 (0,0))]::H) (fun _ H'=>H'=rdX r (F9 n q)::H):=by
 refine D5 13 Tryz.func18 ?_
 refine A1 (A2 (A3 (j:=3) [0,0,0] (k:=C1 0 1 rfl rfl (A5 [0] [0,1,8] (k:=A0 (B1 (b:=q.2==0) kr (fun hc1=>?_) (fun hc1=>?_)))))))
 have hc:q.2=0:=by simpa using hc1
 refine A2 (A3 (j:=4) [0,0,0,0] (k:=C9 0 1 (.int .i64 n) rfl (C0 (E':=[]) [] [] (k:=B7 [] [] (k:=?_)))))
 exact (by rw [Go.Xml.flt_0 hc]; try rfl)
 have hc:¬ q.2=0:=by simpa using hc1
 refine A7 (B7 [] [] (k:=?_))
 exact (by rw [Go.Xml.flt_ne hc]; try rfl)
theorem xtake_ (r:Nat) (q:XS) (w:List UInt8) (W0:World) (H:List Grp):Tri Tryz.prog 34 #[pt r,.string (bk w)] W0 ([(r,.cells #[.string (bk q.1),.int .i64 q.2] 44 (0,0))]::H) (fun v H'=>(w.isPrefixOf q.1=true∧v=.bool true∧H'=rdX r (q.1.drop w.length,q.2)::H)∨(¬ w.isPrefixOf q.1=true∧v=.bool false∧H'=rdX r q::H)):=by
 refine D5 22 Tryz.func34 ?_
 refine A1 (C3 (E':=[⟨0,[],pt r⟩,⟨1,[],.string (bk w)⟩]) [0] [0,1] (k:=A0 (A1 (A2 (A3 (j:=3) [0,0,0] (k:=C1 0 0 rfl rfl (A3 (j:=5) [0] (k:=D9 Tryz.func63 (jcut_ (bk q.1) (bk w) _ _) ?_))))))))
 rintro _ _ ⟨rfl,rfl⟩
 cases hsp:H9 (bk q.1) (bk w)
 all_goals simp only [Bool.false_eq_true,if_false,if_true]
 refine A5 [0,0,0,0,0] [0,5,6] (k:=A0 (A1 (A1 (G_p [0] [0,5,6,16] (k:=A0 (C5 kr (A7 (A0 ?_))))))))
 refine A1 (C3 (E':=[⟨4,[],.bool false⟩]) [0,0] [4] (k:=A0 (B4 (B7 [.tmp 4] [.bool false] (k:=?_)))))
 exact .inr ⟨fun hn=>(J4 _ _).1 hsp (by rw [D0]; exact pre_iff.2 hn),rfl,rfl⟩
 refine A5 [0,0,0,0,0] [0,5,6] (k:=A0 (A1 (A1 (G_p [0] [0,5,6,16] (k:=A0 (B9 kr (A2 (A3 (j:=4) [0,0,0,0] (k:=?_)))))))))
 refine C9 0 0 (.string ((bk q.1).extract (bk w).size (bk q.1).size)) rfl (C0 (E':=[⟨6,[],.bool true⟩]) [] [6] (k:=A0 (A1 (C3 (E':=[⟨4,[],.bool true⟩]) [0,0] [4] (k:=A0 (B4 (B7 [.tmp 4] [.bool true] (k:=?_))))))))
 exact .inl ⟨pre_iff.1 (by have h:=(J7 _ _).1 hsp; rw [D0] at h; exact h),rfl,by rw [ext_bk,D0]; rfl⟩
theorem xmust_ (r:Nat) (q:XS) (w:List UInt8) (W0:World) (H:List Grp):Tri Tryz.prog 16 #[pt r,.string (bk w)] W0 ([(r,.cells #[.string (bk q.1),.int .i64 q.2] 44 (0,0))]::H) (fun _ H'=>H'=rdX r (D4 w q)::H):=by
 refine D5 10 Tryz.func16 ?_
 refine A1 (A2 (A3 (j:=2) [0,0] (k:=D9 Tryz.func34 (xtake_ r q w _ _) ?_)))
 rintro _ _ (⟨hk1,rfl,rfl⟩ | ⟨hk1,rfl,rfl⟩)
 have hk1:w.isPrefixOf q.1=true:=hk1
 refine C0 (E':=[⟨0,[],pt r⟩,⟨7,[],.bool false⟩]) [0] [0,7] (k:=A0 (C5 kr (A7 (B7 [] [] (k:=?_)))))
 exact (by rw [must_yes hk1]; try rfl)
 have hk1:¬ w.isPrefixOf q.1=true:=hk1
 refine C0 (E':=[⟨0,[],pt r⟩,⟨7,[],.bool true⟩]) [0] [0,7] (k:=A0 (B9 kr (A2 (A3 (j:=1) [0] (k:=D9 Tryz.func18 (O1 r q 70 _ _) ?_)))))
 rintro _ _ rfl
 refine C0 (E':=[]) [] [] (k:=B7 [] [] (k:=?_))
 exact (by rw [must_no hk1]; try rfl)
theorem xskip_ (r:Nat) (q:XS) (W0:World) (H:List Grp):Tri Tryz.prog 32 #[pt r] W0 ([(r,.cells #[.string (bk q.1),.int .i64 q.2] 44 (0,0))]::H) (fun v H'=>v=.bool (decide ((blk q.1).length<q.1.length))∧H'=rdX r (blk q.1,q.2)::H):=by
 refine D5 24 Tryz.func32 ?_
 refine A1 (C3 (E':=[⟨0,[],pt r⟩]) [0] [0] (k:=A0 (A1 (A2 (A3 (j:=3) [0,0,0] (k:=C1 0 0 rfl rfl (A5 [0,0] [0,3] (k:=A0 ?_))))))))
 refine A1 (A2 (A3 (j:=4) [0,0,0,0] (k:=C1 0 0 rfl rfl (H5 Tryz.func60 (trimX q.1 _ _) (A3 (j:=8) [0,0] (k:=C9 0 0 (.string (bk (blk q.1))) rfl (A5 [] [0,3] (k:=A0 ?_))))))))
 refine A1 (A2 (A3 (j:=3) [0,0,0] (k:=C1 0 0 rfl rfl (A5 [0,0,0,0] [2] (k:=A0 (B4 (B7 [.tmp 2] [.bool (decide (((bk (blk q.1)).size:Int)<((bk q.1).size:Int)))] (k:=?_))))))))
 exact ⟨congrArg Value.bool (by rw [D0,D0]; exact decide_eq_decide.2 (by omega)),rfl⟩
theorem xskip2_ (r:Nat) (q:XS) (W0:World) (H:List Grp):Tri Tryz.prog 32 #[pt r] W0 (rdX r q::H) (fun v H'=>((blk q.1).length<q.1.length∧v=.bool true∧H'=rdX r (blk q.1,q.2)::H)∨(¬ (blk q.1).length<q.1.length∧v=.bool false∧H'=rdX r (blk q.1,q.2)::H)):=by
 refine (xskip_ r q W0 H).post fun v H' ⟨h1,h2⟩=>⟨H',?_,fun _ h=>h⟩
 by_cases h:(blk q.1).length<q.1.length
 exact .inl ⟨h,by rw [h1,decide_eq_true h],h2⟩
 exact .inr ⟨h,by rw [h1,decide_eq_false h],h2⟩
theorem xuntil_ (r:Nat) (q:XS) (w:List UInt8) (hl:q.1.length≤1000000) (W0:World) (H:List Grp) (hX:T8 W0):Tri Tryz.prog 61 #[pt r,.string (bk w)] W0 ([(r,.cells #[.string (bk q.1),.int .i64 q.2] 44 (0,0))]::H) (fun v H'=>v=.string (bk (I1 w q).1)∧H'=rdX r (I1 w q).2::H):=by
 refine D5 27 Tryz.func61 ?_
 refine A1 (C3 (E':=[⟨0,[],pt r⟩,⟨1,[],.string (bk w)⟩]) [0] [0,1] (k:=A0 (A1 (A2 (A3 (j:=3) [0,0,0] (k:=C1 0 0 rfl rfl (A3 (j:=5) [0] (k:=D9 Tryz.func72 (cutW w q.1 (by omega) _ _ hX) ?_))))))))
 rintro _ _ ⟨⟨hI,rfl⟩ | ⟨i,hI,rfl⟩,rfl⟩
 refine A5 [0,0,0,0,0,0,0] [0,5,6,7] (k:=A0 (A1 (A1 (G_p [0,0] [0,5,6,19] (k:=A0 (B9 kr (A1 (A2 ?_))))))))
 refine A3 (j:=1) [0] (k:=D9 Tryz.func18 (O1 r q 70 _ _) ?_)
 rintro _ _ rfl
 refine C0 (E':=[]) [] [] (k:=A0 (A1 (C3 (E':=[⟨4,[],.string eB⟩]) [0] [4] (k:=A0 (B4 (A4 (B7 [.tmp 4] [.string eB] (k:=?_))))))))
 exact ⟨by rw [until_none hI]; try rfl,by rw [until_none hI]; try rfl⟩
 refine A5 [0,0,0,0,0,0,0] [0,5,6,7] (k:=A0 (A1 (A1 (G_p [0,0] [0,5,6,19] (k:=A0 (C5 kr (A7 (A0 ?_))))))))
 refine A1 (A2 (A3 (j:=4) [0,0,0,0] (k:=C9 0 0 (.string (bk (q.1.drop (i+w.length)))) rfl (C0 (E':=[⟨5,[],.string (bk (q.1.take i))⟩]) [] [5] (k:=A0 (A1 (C3 (E':=[⟨4,[],.string (bk (q.1.take i))⟩]) [0,0] [4] (k:=A0 ?_))))))))
 refine B4 (B7 [.tmp 4] [.string (bk (q.1.take i))] (k:=?_))
 exact ⟨by rw [until_some hI]; try rfl,by rw [until_some hI]; try rfl⟩
theorem xlen_ (l:List UInt8) (hl:l.length≤1000000000000) (W0:World) (H:List Grp):Tri Tryz.prog 50 #[.string (bk l)] W0 H (fun v H'=>v=.int .i64 (nmX l:Int)∧H'=H):=by
 have hbz:=D0 l
 refine D5 63 Tryz.func50 ?_
 refine A1 (C3 (E':=[⟨0,[],.string (bk l)⟩]) [0] [0] (k:=A0 (A1 (A1 (G_p [0,0,0] [0,7,8] (k:=A0 (B3 (I5 (EI:=(fun ξ:Nat=>[⟨0,[],.string (bk l)⟩,⟨7,[],.int .i64 ((bk l).size:Int)⟩,⟨8,[],.int .i64 ((ξ:Nat):Int)⟩])) (HI:=(fun ξ:Nat=>H)) (Φ:=(fun ξ:Nat=>(ξ≤l.length)∧(NmAt l ξ))) (μ:=(fun ξ:Nat=>l.length - ξ)) (s0:=(0)) [0,7,8] kr rfl ⟨(Nat.zero_le _),(.inl rfl)⟩ ?_))))))))
 rintro i ⟨hi,hN⟩
 try dsimp only at hi hN
 refine A1 (G_p [0] [0,7,8,9] (k:=A0 (A1 (B1 (b:=decide (((i:Nat):Int)<((bk l).size:Int))) kr (fun hc1=>?_) (fun hc1=>?_)))))
 have h0:=hc1; simp only [decide_eq_true_eq] at h0
 refine A7 (A0 (A1 (B3 (A1 (G_p [0,0] [0,3,7,8] (k:=A0 (A1 (A2 ?_))))))))
 refine A3 (j:=2) [0,0] (k:=G3 (bk l) ((i:Nat):Int) (fun _=>by omega) ?_)
 have hb2:=E5 (bk l) ((i:Nat):Int)
 refine A5 [0] [0,3,4,7,8] (k:=A0 (A1 (G_p [0,0,0,0,0,6,0,0,0,0,0,0,6,5,0,0,0,5,0,0,0,5,0] [0,3,4,5,7,8] (k:=A0 (A1 (G_p [0,0,0,0,0,0,0,0,0,0,0,6,0,0,0,5,0,0,0,5,0,5,6] [0,3,7,8,58] (k:=A0 (B1 (b:=(!(((((decide ((B2 (bk l) ((i:Nat):Int)) ≥ 97))&&(decide ((B2 (bk l) ((i:Nat):Int))≤122)))||((decide ((B2 (bk l) ((i:Nat):Int)) ≥ 65))&&(decide ((B2 (bk l) ((i:Nat):Int))≤90))))||((B2 (bk l) ((i:Nat):Int))==95))||(decide ((B2 (bk l) ((i:Nat):Int)) ≥ 128))))&&((((i:Nat):Int)==0)||(!((((decide ((B2 (bk l) ((i:Nat):Int)) ≥ 48))&&(decide ((B2 (bk l) ((i:Nat):Int))≤57)))||((B2 (bk l) ((i:Nat):Int))==45))||((B2 (bk l) ((i:Nat):Int))==46))))) kr (fun hc3=>?_) (fun hc3=>?_)))))))))
 simp only [Bool.and_eq_true,Bool.and_eq_false_iff,Bool.or_eq_true,Bool.or_eq_false_iff,Bool.not_eq_true',decide_eq_false_iff_not,beq_iff_eq,beq_eq_false_iff_ne,ne_eq,ge_iff_le,byteJ] at hc3
 have h1:=hc3
 refine A1 (C3 (E':=[⟨2,[],.int .i64 ((i:Nat):Int)⟩]) [0,0] [2] (k:=A0 (B4 (B0 (A4 (A4 (B0 (A4 ?_))))))))
 refine B7 [.tmp 2] [.int .i64 ((i:Nat):Int)] (k:=?_)
 exact ⟨congrArg (fun n:Nat=>Value.int .i64 (n:Int)) (nm_stop hN (by omega) (by rw [← Bool.not_eq_true,fst_iff]; omega) (by rcases h1.2 with h | h; exact .inl (by omega); exact .inr (by rw [← Bool.not_eq_true,nxt_iff,fst_iff]; omega))).symm,rfl⟩
 simp only [Bool.and_eq_true,Bool.and_eq_false_iff,Bool.or_eq_true,Bool.or_eq_false_iff,Bool.not_eq_false',decide_eq_true_eq,beq_iff_eq,beq_eq_false_iff_ne,ne_eq,ge_iff_le,byteJ] at hc3
 have h1:=hc3
 refine A7 (B8 (A0 (A2 (A3 (j:=1) [0] (k:=D1 60 (((i:Nat):Int)+1) (by omega) (by omega) kr (A5 [0] [0,7,8] (k:=D2 (s':=(i+1)) [0,7,8] kr rfl ⟨(by omega),(nm_step hN (by omega) (by rcases h1 with h1 | h1; exact .inl ((fst_iff _).2 (by omega)); exact .inr ⟨by omega,(nxt_iff _).2 (.inr (by omega))⟩))⟩ (by omega))))))))
 have h0:=hc1; simp only [decide_eq_false_iff_not] at h0
 refine E7 (A6 (A6 (B6 (A0 (A1 (C3 (E':=[⟨2,[],.int .i64 ((bk l).size:Int)⟩]) [0,0,0] [2] (k:=A0 (B4 ?_))))))))
 refine B7 [.tmp 2] [.int .i64 ((bk l).size:Int)] (k:=?_)
 exact ⟨congrArg (Value.int .i64) (by rw [nm_end hN (by omega) hi,D0]),rfl⟩
theorem xname_ (r:Nat) (q:XS) (hl:q.1.length≤1000000) (W0:World) (H:List Grp):Tri Tryz.prog 62 #[pt r] W0 ([(r,.cells #[.string (bk q.1),.int .i64 q.2] 44 (0,0))]::H) (fun v H'=>v=.string (bk (L9 q).1)∧H'=rdX r (L9 q).2::H):=by
 have hbz:=D0 q.1
 have hnl:=nm_le q.1
 refine D5 30 Tryz.func62 ?_
 refine A1 (C3 (E':=[⟨0,[],pt r⟩]) [0] [0] (k:=A0 (A1 (A2 (A3 (j:=3) [0,0,0] (k:=C1 0 0 rfl rfl (H5 Tryz.func50 (xlen_ q.1 (by omega) _ _) (A5 [0] [0,3] (k:=?_)))))))))
 refine A0 (A1 (A1 (G_p [0,0] [0,3,11] (k:=A0 (B1 (b:=(nmX q.1:Int)==0) kr (fun hc1=>?_) (fun hc1=>?_))))))
 have hn:nmX q.1=0:=by have:=hc1; simp only [beq_iff_eq] at this; omega
 refine A2 (A3 (j:=1) [0] (k:=D9 Tryz.func18 (O1 r q 70 _ _) ?_))
 rintro _ _ rfl
 refine A5 [] [0,3] (k:=A0 (A1 (A2 (A3 (j:=3) [0,0,0] (k:=C1 0 0 rfl rfl (A3 (j:=5) [0] (k:=M6 (bk (F9 70 q).1) 0 (nmX q.1:Int) (fun _=>by omega) (E3 19 (x:=.string ((bk (F9 70 q).1).extract 0 (Int.toNat (nmX q.1:Int)))) (y:=.string (bk (q.1.take (nmX q.1)))) (by rw [toNat_ext]; try rfl) ?_))))))))
 refine A5 [0] [0,3,4] (k:=A0 (A1 (A2 (A3 (j:=4) [0,0,0,0] (k:=C1 0 0 rfl rfl (A3 (j:=6) [0] (k:=M6 (bk (F9 70 q).1) (nmX q.1:Int) ((bk (F9 70 q).1).size:Int) (fun _=>by omega) (E3 26 (x:=.string ((bk (F9 70 q).1).extract (Int.toNat (nmX q.1:Int)) (bk (F9 70 q).1).size)) (y:=.string (bk (q.1.drop (nmX q.1)))) (by rw [toNat_extD]; try rfl) ?_))))))))
 refine A3 (j:=9) [0,0] (k:=C9 0 0 (.string (bk (q.1.drop (nmX q.1)))) rfl (A5 [] [4] (k:=A0 (A1 (G_p [0,0] [2] (k:=A0 (B4 (B7 [.tmp 2] [.string (bk (q.1.take (nmX q.1)))] (k:=?_)))))))))
 exact ⟨by rw [nameX_0 hn,hn]; try rfl,by rw [nameX_0 hn,hn]; try rfl⟩
 have hn:¬ nmX q.1=0:=by have:=hc1; simp only [beq_eq_false_iff_ne,ne_eq] at this; omega
 refine A7 (A0 (A1 (A2 (A3 (j:=3) [0,0,0] (k:=C1 0 0 rfl rfl (A3 (j:=5) [0] (k:=M6 (bk q.1) 0 (nmX q.1:Int) (fun _=>by omega) (E3 19 (x:=.string ((bk q.1).extract 0 (Int.toNat (nmX q.1:Int)))) (y:=.string (bk (q.1.take (nmX q.1)))) (by rw [toNat_ext]; try rfl) ?_))))))))
 refine A5 [0] [0,3,4] (k:=A0 (A1 (A2 (A3 (j:=4) [0,0,0,0] (k:=C1 0 0 rfl rfl (A3 (j:=6) [0] (k:=M6 (bk q.1) (nmX q.1:Int) ((bk q.1).size:Int) (fun _=>by omega) (E3 26 (x:=.string ((bk q.1).extract (Int.toNat (nmX q.1:Int)) (bk q.1).size)) (y:=.string (bk (q.1.drop (nmX q.1)))) (by rw [toNat_extD]; try rfl) ?_))))))))
 refine A3 (j:=9) [0,0] (k:=C9 0 0 (.string (bk (q.1.drop (nmX q.1)))) rfl (A5 [] [4] (k:=A0 (A1 (G_p [0,0] [2] (k:=A0 (B4 (B7 [.tmp 2] [.string (bk (q.1.take (nmX q.1)))] (k:=?_)))))))))
 exact ⟨by rw [nameX_s hn]; try rfl,by rw [nameX_s hn]; try rfl⟩
theorem xqual_ (r:Nat) (q:XS) (hl:q.1.length≤1000000) (W0:World) (H:List Grp):Tri Tryz.prog 35 #[pt r] W0 ([(r,.cells #[.string (bk q.1),.int .i64 q.2] 44 (0,0))]::H) (fun v H'=>v=.tuple #[.string (bk (A8 q).1.pre),.string (bk (A8 q).1.name),.bool (A8 q).1.has]∧H'=rdX r (A8 q).2::H):=by
 have hn1:=name_le q
 refine D5 15 Tryz.func35 ?_
 refine A1 (C3 (E':=[⟨0,[],pt r⟩]) [0,0,0] [0] (k:=A0 (A1 (A2 (A3 (j:=1) [0] (k:=D9 (vs:=[pt r]) Tryz.func62 (xname_ r q (by first | omega | (show (List.drop 1 _).length≤_; rw [List.length_drop]; omega)) _ _) ?_))))))
 rintro _ _ ⟨rfl,rfl⟩
 refine A5 [0] [0,5] (k:=A0 (A1 (A1 (A2 (A3 (j:=1) [0] (k:=D9 Tryz.func34 (xtake_ r ((L9 q).2) [58] _ _) ?_))))))
 rintro _ _ (⟨hk1,rfl,rfl⟩ | ⟨hk1,rfl,rfl⟩)
 have hk1:[58].isPrefixOf ((L9 q).2).1=true:=hk1
 refine A5 [0] [0,5,10] (k:=A0 (C5 kr (A7 (A0 (A1 (A2 (A3 (j:=2) [0,0] (k:=D9 (vs:=[pt r]) Tryz.func62 (xname_ r (((L9 q).2).1.drop 1,((L9 q).2).2) (by first | omega | (show (List.drop 1 _).length≤_; rw [List.length_drop]; omega)) _ _) ?_))))))))
 rintro _ _ ⟨rfl,rfl⟩
 refine A5 [0,0,0] [2,3,4] (k:=A0 (B4 (B7 [.tmp 2,.tmp 3,.tmp 4] [.string (bk (L9 q).1),.string (bk (L9 (((L9 q).2).1.drop 1,((L9 q).2).2)).1),.bool true] (k:=?_))))
 exact ⟨by rw [qual_yes hk1]; try rfl,by rw [qual_yes hk1]; try rfl⟩
 have hk1:¬ [58].isPrefixOf ((L9 q).2).1=true:=hk1
 refine A5 [0] [0,5,10] (k:=A0 (B9 kr (A1 (G_p [0,0,0,0] [2,3,4] (k:=A0 (B4 (A4 (B7 [.tmp 2,.tmp 3,.tmp 4] [.string eB,.string (bk (L9 q).1),.bool false] (k:=?_)))))))))
 exact ⟨by rw [qual_no hk1]; try rfl,by rw [qual_no hk1]; try rfl⟩
theorem xaside_ (r:Nat) (q:XS) (hl:q.1.length≤1000000) (W0:World) (H:List Grp) (hX:T8 W0):Tri Tryz.prog 33 #[pt r] W0 ([(r,.cells #[.string (bk q.1),.int .i64 q.2] 44 (0,0))]::H) (fun v H'=>v=.bool (I2 q).1∧H'=rdX r (I2 q).2::H):=by
 refine D5 17 Tryz.func33 ?_
 refine A1 (C3 (E':=[⟨0,[],pt r⟩]) [0] [0] (k:=A0 (A1 (B3 (A1 (A2 (A3 (j:=1) [0] (k:=D9 Tryz.func34 (xtake_ r q [60,33,45,45] _ _) ?_))))))))
 rintro _ _ (⟨hk1,rfl,rfl⟩ | ⟨hk1,rfl,rfl⟩)
 have hk1:[60,33,45,45].isPrefixOf q.1=true:=hk1
 refine C0 (E':=[⟨0,[],pt r⟩,⟨3,[],.bool true⟩]) [0] [0,3] (k:=A0 (B9 kr (A1 (A2 (A3 (j:=1) [0] (k:=D9 (vs:=[pt r,.string (mB #[45,45])]) Tryz.func61 (xuntil_ r (q.1.drop 4,q.2) [45,45] (by first | (show (List.drop _ _).length≤_; rw [List.length_drop]; omega) | (have:=name_le (q.1.drop 2,q.2); dsimp only at this; rw [List.length_drop] at this; omega)) _ _ hX) ?_))))))
 rintro _ _ ⟨rfl,rfl⟩
 refine C0 (E':=[⟨0,[],pt r⟩]) [] [0] (k:=A0 (A2 (A3 (j:=1) [0] (k:=D9 Tryz.func16 (xmust_ r ((I1 [45,45] (q.1.drop 4,q.2)).2) [62] _ _) ?_))))
 rintro _ _ rfl
 refine C0 (E':=[]) [] [] (k:=B8 (A0 (A1 (C3 (E':=[⟨2,[],.bool true⟩]) [0] [2] (k:=A0 (B4 (B7 [.tmp 2] [.bool true] (k:=?_))))))))
 exact ⟨by rw [aside_1 hk1]; try rfl,by rw [aside_1 hk1]; try rfl⟩
 have hk1:¬ [60,33,45,45].isPrefixOf q.1=true:=hk1
 refine C0 (E':=[⟨0,[],pt r⟩,⟨3,[],.bool false⟩]) [0] [0,3] (k:=A0 (C5 kr (A1 (A2 (A3 (j:=1) [0] (k:=D9 Tryz.func34 (xtake_ r q [60,63] _ _) ?_))))))
 rintro _ _ (⟨hk2,rfl,rfl⟩ | ⟨hk2,rfl,rfl⟩)
 have hk2:[60,63].isPrefixOf q.1=true:=hk2
 refine C0 (E':=[⟨0,[],pt r⟩,⟨10,[],.bool true⟩]) [0] [0,10] (k:=A0 (B9 kr (A1 (A2 (A3 (j:=1) [0] (k:=D9 (vs:=[pt r]) Tryz.func62 (xname_ r (q.1.drop 2,q.2) (by first | (show (List.drop _ _).length≤_; rw [List.length_drop]; omega) | (have:=name_le (q.1.drop 2,q.2); dsimp only at this; rw [List.length_drop] at this; omega)) _ _) ?_))))))
 rintro _ _ ⟨rfl,rfl⟩
 refine C0 (E':=[⟨0,[],pt r⟩]) [] [0] (k:=A0 (A2 (A3 (j:=1) [0] (k:=D9 (vs:=[pt r,.string (mB #[63,62])]) Tryz.func61 (xuntil_ r ((L9 (q.1.drop 2,q.2)).2) [63,62] (by first | (show (List.drop _ _).length≤_; rw [List.length_drop]; omega) | (have:=name_le (q.1.drop 2,q.2); dsimp only at this; rw [List.length_drop] at this; omega)) _ _ hX) ?_))))
 rintro _ _ ⟨rfl,rfl⟩
 refine C0 (E':=[]) [] [] (k:=B8 (A0 (A1 (C3 (E':=[⟨2,[],.bool true⟩]) [0] [2] (k:=A0 (B4 (B7 [.tmp 2] [.bool true] (k:=?_))))))))
 exact ⟨by rw [aside_2 hk1 hk2]; try rfl,by rw [aside_2 hk1 hk2]; try rfl⟩
 have hk2:¬ [60,63].isPrefixOf q.1=true:=hk2
 refine C0 (E':=[⟨0,[],pt r⟩,⟨10,[],.bool false⟩]) [0] [0,10] (k:=A0 (C5 kr (A1 (C3 (E':=[⟨2,[],.bool false⟩]) [0] [2] (k:=A0 (B4 (B0 (A4 ?_))))))))
 refine B7 [.tmp 2] [.bool false] (k:=?_)
 exact ⟨by rw [aside_3 hk1 hk2]; try rfl,by rw [aside_3 hk1 hk2]; try rfl⟩
theorem xaround_ (r:Nat) (q:XS) (hl:q.1.length≤1000000) (W0:World) (H:List Grp) (hX:T8 W0):Tri Tryz.prog 15 #[pt r] W0 ([(r,.cells #[.string (bk q.1),.int .i64 q.2] 44 (0,0))]::H) (fun _ H'=>H'=rdX r (C4 (q.1.length+1) q)::H):=by
 refine D5 15 Tryz.func15 ?_
 refine B3 (I5 (EI:=(fun ξ:Nat × XS=>[⟨0,[],pt r⟩])) (HI:=(fun ξ:Nat × XS=>([(r,.cells #[.string (bk ξ.2.1),.int .i64 ξ.2.2] 44 (0,0))]::H))) (Φ:=(fun ξ:Nat × XS=>(C4 (q.1.length+1) q=C4 ξ.1 ξ.2)∧(ξ.2.2=0→ξ.2.1.length<ξ.1)∧(ξ.2.1.length≤1000000))) (μ:=(fun ξ:Nat × XS=>ξ.1)) (s0:=((q.1.length+1),q)) [0] kr rfl ⟨rfl,(fun _=>Nat.lt_succ_self _),hl⟩ ?_)
 rintro ⟨n,q2⟩ ⟨hT,hn,hl2⟩
 dsimp only at hT hn hl2
 refine A1 (A1 ?_)
 by_cases hq0:q2.2=0
 have hnq:=hn hq0
 obtain ⟨m,rfl⟩:∃ m,n=m+1:=⟨n - 1,by omega⟩
 have hbl:=Z2 q2.1
 refine A2 (A3 (j:=3) [0,0,0] (k:=C1 0 1 rfl rfl (A3 (j:=5) [0] (k:=E3 6 (x:=.bool (q2.2==0)) (y:=.bool true) (by rw [show (q2.2==0)=true by simpa using hq0]) (A3 (j:=7) [0,0] (k:=Q3 (ch:=[(7,true)]) (f:=32) (fst:=#[]) (caps:=#[]) (vs:=[pt r]) (hf:=Tryz.func32) (hsure:=M3 kr) (hc:=xskip2_ r q2 _ _) (k:=?_)))))))
 rintro _ _ (⟨hs1,rfl,rfl⟩ | ⟨hs1,rfl,rfl⟩)
 have hsk:(blk q2.1).length<q2.1.length:=hs1
 refine C0 (E':=[⟨0,[],pt r⟩,⟨14,[],.bool true⟩]) [0,1,1,2,2] [0,14] (k:=A0 (B9 kr (A7 (A0 (B3 (A7 (B8 (D2 (s':=(m,(blk q2.1,q2.2))) [0] kr rfl ⟨(by dsimp only; exact hT.trans (by first | exact around_skip hq0 hsk | exact around_aside hq0 hsk has)),(by dsimp only; intro _; have:=hn hq0; first | omega | (have:=aside_lt has; dsimp only at this; omega)),(by dsimp only; first | omega | (have:=A0h (blk q2.1,q2.2); dsimp only at this; omega))⟩ (by dsimp only; omega)))))))))
 have hsk:¬ (blk q2.1).length<q2.1.length:=hs1
 refine A3 (j:=10) [0,0] (k:=Q3 (ch:=[(10,false),(7,true)]) (f:=33) (fst:=#[]) (caps:=#[]) (vs:=[pt r]) (hf:=Tryz.func33) (hsure:=M3 kr) (hc:=xaside_ r (blk q2.1,q2.2) (by have:=Z2 q2.1; show (blk q2.1).length≤_; omega) _ _ hX) (k:=?_))
 rintro _ _ ⟨rfl,rfl⟩
 refine A5 [3,2] [0,14] (k:=A0 (B1 (b:=(I2 (blk q2.1,q2.2)).1) kr (fun hc2=>?_) (fun hc2=>?_)))
 have has:(I2 (blk q2.1,q2.2)).1=true:=hc2
 refine A7 (A0 (B3 (A7 (B8 (D2 (s':=(m,(I2 (blk q2.1,q2.2)).2)) [0] kr rfl ⟨(by dsimp only; exact hT.trans (by first | exact around_skip hq0 hsk | exact around_aside hq0 hsk has)),(by dsimp only; intro _; have:=hn hq0; first | omega | (have:=aside_lt has; dsimp only at this; omega)),(by dsimp only; first | omega | (have:=A0h (blk q2.1,q2.2); dsimp only at this; omega))⟩ (by dsimp only; omega))))))
 have has:¬ (I2 (blk q2.1,q2.2)).1=true:=by rw [hc2]; exact Bool.false_ne_true
 refine E7 (A6 (A6 (B6 (B7 [] [] (k:=?_)))))
 exact (by rw [hT,around_end hq0 hsk has]; try rfl)
 refine A2 (A3 (j:=3) [0,0,0] (k:=C1 0 1 rfl rfl (A3 (j:=5) [0] (k:=E3 6 (x:=.bool (q2.2==0)) (y:=.bool false) (by rw [show (q2.2==0)=false by simpa using hq0]) (C0 (E':=[⟨0,[],pt r⟩,⟨14,[],.bool false⟩]) [0,1,1,1,1,1,1,3] [0,14] (k:=A0 (C5 kr (E7 ?_))))))))
 refine A6 (A6 (B6 (B7 [] [] (k:=?_))))
 exact (by rw [hT,around_ne hq0]; try rfl)
end Go.Proofs.YtcgmnagcgkhogaaGreatDoor
namespace Go.Proofs
open Go.Shelf
def Tryz.laysValid_ren:Go.Shelf.Ren:=⟨fun | 196=>29 | 259=>58 | n=>n,fun | 9=>9 | 4=>4 | 3=>3 | 5=>5 | 12=>12 | 119=>103 | 0=>0 | 46=>107 | 139=>106 | 138=>105 | 53=>121 | n=>n,fun | 3=>0 | 4=>1 | n=>n⟩
theorem Tryz.laysValid:Go.Proofs.Lays.n196 Tryz.prog Tryz.laysValid_ren:={
 mixed:=by kernel_rfl
 f196:=Tryz.func29.trans (congrArg some (by kernel_rfl))
 f259:=Tryz.func58.trans (congrArg some (by kernel_rfl))
 t0:=Tryz.underlying0
 a0:=Tryz.isAgg0
 z0:=Tryz.sizeOf0
 v0:=Tryz.zeroValue0
 t3:=Tryz.underlying3
 a3:=Tryz.isAgg3
 z3:=Tryz.sizeOf3
 v3:=Tryz.zeroValue3
 t4:=Tryz.underlying4
 a4:=Tryz.isAgg4
 z4:=Tryz.sizeOf4
 v4:=Tryz.zeroValue4
 t5:=Tryz.underlying5
 a5:=Tryz.isAgg5
 z5:=Tryz.sizeOf5
 v5:=Tryz.zeroValue5
 t9:=Tryz.underlying9
 a9:=Tryz.isAgg9
 z9:=Tryz.sizeOf9
 v9:=Tryz.zeroValue9
 t12:=Tryz.underlying12
 a12:=Tryz.isAgg12
 z12:=Tryz.sizeOf12
 v12:=Tryz.zeroValue12
 t46:=Tryz.underlying107
 a46:=Tryz.isAgg107
 z46:=Tryz.sizeOf107
 v46:=Tryz.zeroValue107
 t53:=Tryz.underlying121
 a53:=Tryz.isAgg121
 z53:=Tryz.sizeOf121
 v53:=Tryz.zeroValue121
 t119:=Tryz.underlying103
 a119:=Tryz.isAgg103
 z119:=Tryz.sizeOf103
 t138:=Tryz.underlying105
 a138:=Tryz.isAgg105
 z138:=Tryz.sizeOf105
 v138:=Tryz.zeroValue105
 t139:=Tryz.underlying106
 a139:=Tryz.isAgg106
 z139:=Tryz.sizeOf106
 v139:=Tryz.zeroValue106
 g3:=by kernel_rfl
 g4:=by kernel_rfl }
end Go.Proofs
namespace Go.Proofs.YtcgmnagcgkhogaaGreatDoor
open Go.Sw Go.Esc Go.RowKit
theorem cell_lt {w:World} {b off:Nat} {v:Value} (h:w.cell? ⟨b,off,none⟩=some v):b<w.heap.size:=by
 rcases Nat.lt_or_ge b w.heap.size with h' | h'
 exact h'
 unfold World.cell? at h
 simp only [Array.getElem?_eq_none h'] at h
 cases h
theorem tabs_sat {W0:World} {H:List Grp} {w:World} {g3 g4:Nat} (h:Lib.Utf8Tabs g3 g4 W0) (hs:Sat W0 H w):Lib.Utf8Tabs g3 g4 w:=by
 have c:∀ {b off:Nat} {v:Value},W0.cell? ⟨b,off,none⟩=some v→w.cell? ⟨b,off,none⟩=some v:=fun h=>cell_base hs (cell_lt h) h
 exact ⟨fun q hq=>c (h.1 q hq),fun i hi=>⟨c (h.2 i hi).1,c (h.2 i hi).2⟩⟩
theorem validStr (s:ByteArray) (hs:s.size≤1000000000000) (W0:World) (H:List Grp) (hW:V4 W0):Tri Tryz.prog 29 #[.string s] W0 H (fun v H'=>v=.bool (K4 s.data.toList)∧H'=H):=by
 rw [validP_D]
 exact Tri_below (fun w hw=>Any.utf8_ValidString Tryz.laysValid s w (by omega) (tabs_sat hW.utf hw))
end Go.Proofs.YtcgmnagcgkhogaaGreatDoor
namespace Go.Proofs.YtcgmnagcgkhogaaGreatDoor
open Go Go.ChangeShapes Go.WideShapes Go.ChangeAt Go.RowKit Go.Sw Go.Lib Go.Shelf Go.Proofs
theorem frozen_below {W W':World} (h:Below W.heap.size W W') {a:Addr} (ha:a.block<W.heap.size):W'.frozen? a=W.frozen? a:=by
 unfold World.frozen?
 rw [h.block _ ha]
theorem post_below {H:Type} {enc:TypeId × Value→H} {P:Program} {f:Func} {s:ChangeSpec} {apart fresh handsOn again:Bool} {W W':World} {args:Array Value} {v:Value} {ds gs:List (DataW H)} {before pa pv:List MemPlace}
  (hW:DataW.Whole enc P f.params.toList s.vars apart W args.toList ds gs before)
  (hres:∀ (b:Nat) (sp:Nat→Bool) (hd:Bool),DataW.TrodAll enc P W' b sp hd f.resultTypes.toList (v.resultList f.resultTypes.size) (s.fn H (ds++gs)).results [])
  (hargs:∀ sp:Nat→Bool,(∀ p∈before,sp p.block=true)→DataW.TrodAll enc P W' 0 sp true f.params.toList args.toList (s.fn H (ds++gs)).args pa)
  (hvars:∀ sp:Nat→Bool,(∀ p∈before,sp p.block=true)→DataW.TrodVars enc P W' sp s.vars (s.fn H (ds++gs)).vars pv)
  (hps:before=pa++pv) (hb:Below W.heap.size W W')
  (hok:∀ (j:Nat) (t:TypeId) (r:Value),f.resultTypes[j]? = some t→(v.resultList f.resultTypes.size)[j]? = some r→Value.okWide P W' .any 0 t r) :
  s.post enc P f apart fresh handsOn again W args v W':=by
 have hold:∀ p∈before,(fun b=>decide (b<W.heap.size)) p.block=true:=fun p hp=>by simpa using hW.lt p hp
 have hlt:=hW.lt
 refine ⟨ds,gs,before,[],pa,pv,hW,hres _ _ _,hargs _ hold,hvars _ hold,hb.frame _,fun _=>?_⟩
 obtain ⟨_,_,_,_,_,hz,hn⟩:=hW
 refine ⟨hok,_,_,([]++pa)++pv,⟨[]++pa,pv,trodAll_append (hargs _ (fun _ _=>rfl)) (hres _ _ _),hvars _ (fun _ _=>rfl),rfl,?_,?_⟩,?_⟩
 intro b off hp
 have hp':MemPlace.cell b off∈before:=by rw [hps]; simpa using hp
 rw [frozen_below hb (hlt _ hp')]
 exact hz b off hp'
 intro ha
 have:=hn ha
 rw [hps] at this
 simpa using this
 intro p hp _
 rw [hps]
 simpa using hp
theorem T0 {P:Program} {x:String × DataW Unit} {r:List (String × DataW Unit)} {W:World} (h:laidMet P (x::r) W):laidMet P r W:=by
 obtain ⟨ps,⟨g,t,cs,fuel,p,q,_,_,_,_,h5,h6⟩,hn,hc⟩:=h
 subst h6
 exact ⟨q,h5,(List.nodup_append.1 hn).2.1,fun b off hm=>hc b off (List.mem_append_right _ hm)⟩
theorem sat_nil (W:World):Sat W [] W:=⟨Below.refl _ _,by simp,by simp,by simp⟩
theorem eStar : "*" ++ "errors.errorString" = "*errors.errorString" := by decide
theorem eRow (u : TypeId) (h : Tryz.prog.typeName? 3 u = some "*errors.errorString") : u = 225 :=
 typeName_ptr_named (nm := "errors.errorString") (by rw [eStar]; kernel_rfl) (by kernel_rfl) (by decide) u (by rw [eStar]; exact h)
theorem eGlob : Tryz.prog.globalNamed "strconv.ErrSyntax" = some 3 := by kernel_rfl
theorem eU8:U8Extra Tryz.prog Tryz.laysValid_ren:={ n3:=by kernel_rfl,n4:=by kernel_rfl,y3:=by kernel_rfl,y4:=by kernel_rfl,c5:=by kernel_rfl,c119:=by kernel_rfl,c138:=by kernel_rfl }
def de64:List Int:=[0,1,56,2,57,49,28,3,61,58,42,50,38,29,17,4,62,47,59,36,45,43,51,22,53,39,33,30,24,18,12,5,63,55,48,27,60,41,37,16,46,35,44,21,52,32,23,11,54,26,40,15,34,20,31,10,25,14,19,9,13,8,7,6]
theorem eTz : Tryz.prog.globalNamed "math/bits.deBruijn64tab" = some 7 := by kernel_rfl
theorem base_of {W : World} (h : laidMet Tryz.prog [("math/bits.deBruijn32tab", Rows.laid_math_bits_deBruijn32tab), ("math/bits.deBruijn64tab", Rows.laid_math_bits_deBruijn64tab), ("internal/strconv.uint64pow10", Rows.laid_internal_strconv_uint64pow10), ("unicode/utf8.acceptRanges", Rows.laid_unicode_utf8_acceptRanges), ("strconv.ErrRange", Rows.laid_strconv_ErrRange), ("strconv.ErrSyntax", Rows.laid_strconv_ErrSyntax), ("unicode/utf8.first", Rows.laid_unicode_utf8_first)] W) : V4 W := by
  have h2:=T0 h
  have h6:=T0 (T0 (T0 (T0 h2)))
  refine ⟨?_,?_,?_⟩
  obtain ⟨a0,s0,hv0,-,-,-⟩:=laid_sentinel h6 eGlob (ti:=96) (tp:=225) (te:=227) (ts:=9) (by kernel_rfl) Tryz.underlying96 eRow Tryz.underlying225 Tryz.underlying227 rfl rfl Tryz.underlying9 (by kernel_rfl) (by kernel_rfl)
  have hc:W.cell? ⟨3,0,none⟩=some (.iface 225 (.pointer (some a0))):=by
    have h0:=World.var?_cell eGlob hv0 0; simpa using h0
  exact ⟨_,cell_lt hc,hc,.inr ⟨_,_,rfl⟩⟩
  have hT : Lib.TabIs Tryz.prog W "math/bits.deBruijn64tab" .u8 de64 := by
    rw [show Rows.laid_math_bits_deBruijn64tab=Lib.tabData .u8 de64 from by kernel_rfl] at h2
    exact Lib.tabIs_of_head (t:=240) (e:=5) (n:=64) eTz (by kernel_rfl) (by kernel_rfl) (by kernel_rfl) (by kernel_rfl) (by kernel_rfl) h2
  unfold Lib.TabIs World.var? at hT
  rw [eTz] at hT
  simp only [Option.bind_some] at hT
  cases hb:W.heap[7]? with
  | none=>rw [hb] at hT; cases hT
  | some ob =>
    rw [hb] at hT
    cases ob with
    | cells c e fz =>
      have hlt:7<W.heap.size:=(Array.getElem?_eq_some_iff.1 hb).1
      simp only [Option.some.injEq] at hT
      subst hT
      exact ⟨_,_,_,hlt,rfl,by rfl⟩
    | _=>cases hT
  have h3 := laidMet.reads h (n := "unicode/utf8.first") (d := Rows.laid_unicode_utf8_first) (by simp)
  have h4 := laidMet.reads h (n := "unicode/utf8.acceptRanges") (d := Rows.laid_unicode_utf8_acceptRanges) (by simp)
  rw [show Rows.laid_unicode_utf8_first=Lib.firstData from by kernel_rfl] at h3
  rw [show Rows.laid_unicode_utf8_acceptRanges=Lib.acceptData from by kernel_rfl] at h4
  exact utf8Tabs_of_readsT (U8Types.of196 Tryz.laysValid) eU8 h3 h4
end Go.Proofs.YtcgmnagcgkhogaaGreatDoor
namespace Go.Json
open Go.Sw Go.Esc
def strV (ns:List (List UInt8)):List Value:=ns.map fun n=>.string (bk n)
theorem strV_len (a:List (List UInt8)):(strV a).length=a.length:=List.length_map _
theorem strV_at {a:List (List UInt8)} {k:Nat} (h:k<a.length):(strV a)[k]? = some (.string (bk a[k])):=by
 unfold strV; rw [List.getElem?_map,List.getElem?_eq_getElem h]; rfl
theorem rd_mono {S S':Nat→Obj→Prop} {a:Option Addr} {cs:List Value} (h:Rd S a cs) (hs:∀ b o,S b o→S' b o):Rd S' a cs:=by
 unfold Rd at h ⊢
 rcases h with h | ⟨b,off,c,t,z,h1,h2,h3⟩
 exact .inl h
 exact .inr ⟨b,off,c,t,z,h1,hs _ _ h2,h3⟩
mutual
inductive JRd (S:Nat→Obj→Prop):JV→List Value→Prop
 | mk {k:Int} {t:List UInt8} {ns:List (List UInt8)} {l:List JV} {an al:Option Addr} {cn cl:Nat} {cs:List Value}:Rd S an (strV ns)→Rd S al cs→JRdL S l cs→JRd S (.mk k t ns l) [.int .i64 k,.string (bk t),.slice an ns.length cn,.slice al l.length cl]
inductive JRdL (S:Nat→Obj→Prop):List JV→List Value→Prop
 | nil:JRdL S [] []
 | cons {v:JV} {l:List JV} {c cs:List Value}:JRd S v c→JRdL S l cs→JRdL S (v::l) (c++cs)
end
mutual
/-- owned: one group for all of it -/
inductive JRep (ts tj:TypeId):JV→List Value→Grp→Prop
 | mk {k:Int} {t:List UInt8} {ns:List (List UInt8)} {l:List JV} {an al:Option Addr} {cn cl:Nat} {cs:List Value} {gn gl gs:Grp}:Own ts 1 (.slice an ns.length cn) gn ns.length (strV ns)→Own tj 4 (.slice al l.length cl) gl l.length cs→JRepL ts tj l cs gs→JRep ts tj (.mk k t ns l) [.int .i64 k,.string (bk t),.slice an ns.length cn,.slice al l.length cl] (gn++(gl++gs))
inductive JRepL (ts tj:TypeId):List JV→List Value→Grp→Prop
 | nil:JRepL ts tj [] [] []
 | cons {v:JV} {l:List JV} {c cs:List Value} {g gs:Grp}:JRep ts tj v c g→JRepL ts tj l cs gs→JRepL ts tj (v::l) (c++cs) (g++gs)
end
theorem JRd.len {S:Nat→Obj→Prop} {v:JV} {c:List Value} (h:JRd S v c):c.length=4:=by cases h; rfl
theorem JRdL.len {S:Nat→Obj→Prop}:∀ {l:List JV} {cs:List Value},JRdL S l cs→cs.length=l.length * 4
  | [],_,h=>by cases h; rfl
  | v::l,_,h=>by
    cases h with
    | cons h1 h2=>rw [List.length_append,h1.len,h2.len,List.length_cons]; omega
theorem JRdL.at {S:Nat→Obj→Prop}:∀ {l:List JV} {cs:List Value} {i:Nat} (hi:i<l.length),JRdL S l cs→JRd S l[i] ((cs.drop (i * 4)).take 4)
  | [],_,_,hi,_=>absurd hi (Nat.not_lt_zero _)
  | v::l,_,0,_,h=>by
    cases h with
    | cons h1 h2 =>
      rw [Nat.zero_mul,List.drop_zero,List.take_append_of_le_length (by rw [h1.len]; exact Nat.le_refl _),List.take_of_length_le (by rw [h1.len]; exact Nat.le_refl _)]; exact h1
  | v::l,_,i+1,hi,h=>by
    cases h with
    | cons h1 h2 =>
      rename_i c cs
      have e:(c++cs).drop ((i+1) * 4)=cs.drop (i * 4):=by
        rw [List.drop_append,List.drop_eq_nil_of_le (by rw [h1.len]; omega),h1.len,List.nil_append,show (i+1) * 4 - 4=i * 4 by omega]
      rw [e]; exact JRdL.at (l:=l) (by simpa using hi) h2
theorem JRep.nul {ts tj:TypeId}:JRep ts tj nul [.int .i64 0,.string (bk []),.slice none 0 0,.slice none 0 0] []:=.mk (ns:=[]) (l:=[]) Own.nil Own.nil .nil
theorem JRepL.snoc {ts tj:TypeId}:∀ {l:List JV} {cs:List Value} {gs:Grp} {v:JV} {c:List Value} {g:Grp},JRepL ts tj l cs gs→JRep ts tj v c g→JRepL ts tj (l++[v]) (cs++c) (gs++g)
  | [],_,_,v,c,g,h,hv=>by
    cases h
    have:=JRepL.cons hv .nil
    rw [List.append_nil,List.append_nil] at this
    exact this
  | x::l,_,_,v,c,g,h,hv=>by
    cases h with
    | cons h1 h2 =>
      rw [List.cons_append,List.append_assoc,List.append_assoc]
      exact .cons h1 (JRepL.snoc h2 hv)
mutual
theorem JRep.rd {ts tj:TypeId} {S:Nat→Obj→Prop}:∀ {v:JV} {c:List Value} {g:Grp},JRep ts tj v c g→(∀ b o,inG g b o→S b o)→JRd S v c
 | .mk _ _ _ _,_,_,.mk h1 h2 h3,hs=>.mk (rd_mono (E8 h1) fun b o h=>hs b o (List.mem_append_left _ h)) (rd_mono (E8 h2) fun b o h=>hs b o (List.mem_append_right _ (List.mem_append_left _ h))) (JRepL.rd h3 fun b o h=>hs b o (List.mem_append_right _ (List.mem_append_right _ h)))
theorem JRepL.rd {ts tj:TypeId} {S:Nat→Obj→Prop}:∀ {l:List JV} {cs:List Value} {g:Grp},JRepL ts tj l cs g→(∀ b o,inG g b o→S b o)→JRdL S l cs
 | [],_,_,.nil,_=>.nil
 | _::_,_,_,.cons h1 h2,hs=>.cons (JRep.rd h1 fun b o h=>hs b o (List.mem_append_left _ h)) (JRepL.rd h2 fun b o h=>hs b o (List.mem_append_right _ h))
end
end Go.Json
namespace Go.Proofs.YtcgmnagcgkhogaaGreatDoor
open Go Go.ChangeShapes Go.WideShapes Go.ChangeAt Go.RowKit Go.Sw Go.Sha Go.Esc
theorem laidOut_:laidOutB Tryz.prog=true:=by kernel_rfl
def SW (W:World) (y:Nat) (o:Obj):Prop:=y<W.heap.size∧W.heap[y]? = some o
theorem sw_at {W:World} {y:Nat} {o:Obj} (h:SW W y o):At W [] y o:=.inl h
theorem rd_cells {W:World} {a:Addr} {cs:List Value} (hn:cs≠[]) (h:∀ j u,cs[j]? = some u→W.cell? (a.add j)=some u):(∃ b off,a=⟨b,off,none⟩)∧Rd (SW W) (some a) cs:=by
  obtain ⟨b,off,sp⟩:=a
  cases cs with
  | nil=>exact absurd rfl hn
  | cons v r =>
    have h0:=h 0 v rfl
    unfold World.cell? at h0
    rw [show (Addr.add ⟨b,off,sp⟩ 0)=⟨b,off,sp⟩ from rfl] at h0
    cases hb:W.heap[b]? with
    | none=>rw [show (⟨b,off,sp⟩:Addr).block=b from rfl,hb] at h0; cases h0
    | some o =>
      rw [show (⟨b,off,sp⟩:Addr).block=b from rfl,hb] at h0
      cases o with
      | cells c e fz =>
        cases sp with
        | some s=>simp at h0
        | none =>
          refine ⟨⟨b,off,rfl⟩,.inr ⟨b,off,c,e,fz,rfl,⟨?_,hb⟩,fun j u hu=>?_⟩⟩
          rcases Nat.lt_or_ge b W.heap.size with h | h
          exact h
          rw [Array.getElem?_eq_none h] at hb; cases hb
          have hj:=h j u hu
          rw [O7] at hj
          unfold World.cell? at hj
          rw [show (⟨b,off+j,none⟩:Addr).block=b from rfl,hb] at hj
          simpa using hj
      | _=>cases h0
theorem wf_u8 {n:Int} (h:(Lit.int .u8 n).wf=true):0≤n∧n<256:=by
 simp [Lit.wf,IntKind.min,IntKind.max,IntKind.bits,IntKind.signed] at h
 omega
def bytesZ (zs:List Int):List UInt8:=zs.map fun z=>UInt8.ofNat z.toNat
theorem u8s_bytesZ {zs:List Int} (h:∀ n∈zs,0≤n∧n<256):u8s (bytesZ zs)=zs.map (Value.int .u8):=by
 unfold u8s bytesZ
 simp only [List.map_map]
 refine List.map_congr_left fun z hz=>?_
 obtain ⟨h0,h1⟩:=h z hz
 simp only [Function.comp]
 congr 1
 rw [UInt8.toNat_ofNat']
 omega
theorem bytesZ_len (zs:List Int):(bytesZ zs).length=zs.length:=List.length_map _
theorem cells_u8:Tryz.prog.cellsOf 5=1:=by kernel_rfl
set_option maxRecDepth 100000 in
theorem open_bytesL {H:Type} {enc:TypeId × Value→H} {W:World} {v:Value} {d:DataW H} {p:List MemPlace} {r:Reach} {b0:Nat} (hval:Value.okWide Tryz.prog W r b0 22 v) (h0:DataW.Trod enc Tryz.prog W 0 (fun _=>true) true 22 v d p) :
  ∃ (a:Option Addr) (c:Nat) (l:List UInt8),v=.slice a l.length c∧Rd (SW W) a (u8s l)∧l.length≤c:=by
 obtain ⟨a0,len,cap,rfl⟩:=okWide_slice Tryz.underlying22 hval
 obtain ⟨fuel,hf⟩:=h0
 rcases open_ints Tryz.underlying22 Tryz.underlying5 cells_u8 hf with ⟨hcs,hx⟩ | ⟨a,len',cap',zs,hcs,_,hl,hm,hz,hx,hcell,hwz⟩
 have e:Value.slice a0 len cap=.slice none 0 0:=by simpa [Value.cells] using hcs
 exact ⟨none,0,[],e,.inl rfl,Nat.le_refl _⟩
 have e:Value.slice a0 len cap=.slice (some a) len' cap':=by simpa [Value.cells] using hcs
 rw [e]
 simp only [if_true] at hz
 have hlen:(zs.take len').length=len':=by rw [List.length_take]; omega
 have hu:u8s (bytesZ (zs.take len'))=(zs.take len').map (Value.int .u8):=u8s_bytesZ fun n hn=>wf_u8 (hwz n (List.mem_of_mem_take hn))
 refine ⟨some a,cap',bytesZ (zs.take len'),by rw [bytesZ_len,hlen],?_,by rw [bytesZ_len,hlen]; omega⟩
 by_cases h0:len'=0
 subst h0; exact .inl (by rw [hu]; simp)
 rw [hu]
 exact (rd_cells (W:=W) (a:=a) (cs:=(zs.take len').map (Value.int .u8)) (by intro he; rw [List.map_eq_nil_iff] at he; rw [he] at hlen; simp at hlen; omega) (fun j u hu=>by
  rw [List.getElem?_map] at hu
  obtain ⟨z,hz1,rfl⟩:=Option.map_eq_some_iff.1 hu
  have hj:j<len':=by
   rcases Nat.lt_or_ge j (zs.take len').length with h | h
   omega
   rw [List.getElem?_eq_none h] at hz1; cases hz1
  rw [List.getElem?_take_of_lt hj] at hz1
  rw [hcell j (by omega),List.getD_eq_getElem?_getD,hz1]; rfl)).2
end Go.Proofs.YtcgmnagcgkhogaaGreatDoor
namespace Go.Proofs.YtcgmnagcgkhogaaGreatDoor
open Go Go.ChangeShapes Go.WideShapes Go.ChangeAt Go.RowKit Go.Sw Go.Esc Go.Xml
theorem cell_in {W:World} {g:Nat} {v:Value} (h:W.cell? ⟨g,0,none⟩=some v):g<W.heap.size:=by
 rcases Nat.lt_or_ge g W.heap.size with h1 | h1
 exact h1
 unfold World.cell? at h
 rw [show (⟨g,0,none⟩:Addr).block=g from rfl,Array.getElem?_eq_none h1] at h; cases h
theorem baseX_of {W:World} (hB:V4 W) (h:W.ShapedOpen Tryz.prog):T8 W:=by
 obtain ⟨m,hm⟩:=cell_of_shapedOpen_int (k:=.i64) h (g:=2) (of_decide_eq_true (by kernel_rfl)) (t:=3) (zero:=#[.int .i64 0]) (by kernel_rfl) rfl (by kernel_rfl) (by kernel_rfl) Tryz.underlying3
 exact ⟨hB,m,cell_in hm,hm⟩
variable {H : Type} {enc : TypeId × Value → H}
end Go.Proofs.YtcgmnagcgkhogaaGreatDoor
namespace Go.Proofs.YtcgmnagcgkhogaaGreatDoor
open Go Go.ChangeShapes Go.WideShapes Go.ChangeAt Go.RowKit Go.Sw Go.Esc Go.Xml
set_option maxRecDepth 100000 in
theorem bytes_one:Tryz.prog.bytesOf 5=1:=congrArg (fun z=>(z.map (·.bytes)).getD 0) (show Tryz.prog.info? 5=some Tryz.t5 from rfl)
set_option maxRecDepth 100000 in
theorem open_bytesZ {H:Type} {enc:TypeId × Value→H} {W:World} {v:Value} {d:DataW H} {p:List MemPlace} {r:Reach} {b0:Nat} (hval:Value.okWide Tryz.prog W r b0 22 v) (h0:DataW.Trod enc Tryz.prog W 0 (fun _=>true) true 22 v d p) (hw:(DataW.weights Tryz.prog 22 d).all (·≤reachBytes)=true) :
  ∃ (a:Option Addr) (c:Nat) (l:List UInt8),v=.slice a l.length c∧Rd (SW W) a (u8s l)∧l.length≤c∧l.length≤140737488351232:=by
 obtain ⟨a0,c,l,rfl,hrd,hcap⟩:=open_bytesL hval h0
 refine ⟨a0,c,l,rfl,hrd,hcap,?_⟩
 obtain ⟨fuel,hf⟩:=h0
 rcases open_ints Tryz.underlying22 Tryz.underlying5 cells_u8 hf with ⟨hcs,hx⟩ | ⟨a,len',cap',zs,hcs,_,hl,hm,hz,hx,hcell,hwz⟩
 have e:Value.slice a0 l.length c=.slice none 0 0:=by simpa [Value.cells] using hcs
 injection e with _ e _; omega
 have e:Value.slice a0 l.length c=.slice (some a) len' cap':=by simpa [Value.cells] using hcs
 injection e with _ e _
 have hd:d=.slice (lits .u8 (zs.take len')) (lits .u8 (zs.drop len')):=congrArg (·.1) hx
 subst hd
 unfold DataW.weights at hw
 rw [Tryz.underlying22] at hw
 dsimp only at hw
 rw [List.all_cons,Bool.and_eq_true,decide_eq_true_eq,bytes_one,Nat.mul_one] at hw
 have h1:=hw.1
 have h2:(lits (H:=H) .u8 (zs.take len')).length=(zs.take len').length:=by simp [lits]
 simp only [if_true] at hz
 rw [h2,List.length_take] at h1
 have h3:reachBytes=140737488351232:=rfl
 omega
variable {H : Type} {enc : TypeId × Value → H}
theorem returnsIn_shapedZ {a:Assume} {C:Checked} {os:Os} {f:FuncId} {fn:Func} {s:ChangeSpec} {conds:List PathCond} {apart fresh handsOn again:Bool} {X:World→Array Value→Prop}
  (hX:∀ (w w':World) (args:Array Value),w.heap=w'.heap→X w args→X w' args)
  (own:ownKnob C.prog.godebug=none) (started:os.Started) (noInit:C.prog.inits.idxOf? f=none) (hfn:C.prog.funcs[f]? = some fn)
  (witness:∃ (w:World) (tape:Tape) (i:Input),w.os=os∧(w.forCall tape i).Shaped C.prog∧i.vars=[]∧Input.okWide C.prog (w.forCall tape i) .any w.heap.size f i ∧
   ((s.pre enc C.prog fn conds apart (w.forCall tape i).memory i.args∧X (w.forCall tape i).memory i.args)∧sizedMet enc C.prog fn (OpenSpec.ofChange s) apart (w.forCall tape i).memory i.args)∧a.holds C.prog (lone (Frame.enter C.prog f i.args .normal) [] (w.forCall tape i)))
  (contract:∀ (W:World) (base:Nat) (args:Array Value) (ds gs:List (DataW H)) (before:List MemPlace),
   (∀ (j:Nat) t v,fn.params[j]? = some t→args[j]? = some v→Value.okWide C.prog W .any base t v) →
   DataW.Whole enc C.prog fn.params.toList s.vars apart W args.toList ds gs before →
   conds.all (PathCond.test C.prog ⟨fn.params.toList,ds,s.plain.varTypes C.prog,gs⟩)=true →
   X W args→W.ShapedOpen C.prog →
   (DataW.weightsEach C.prog (fn.params.toList++(OpenSpec.ofChange s).bare.plain.varTypes C.prog) (ds++gs)).all (·≤reachBytes)=true →
   Calls C.prog f args W fun e W'=>∃ v,e=.returned v∧s.post enc C.prog fn apart fresh handsOn again W args v W') :
  ReturnsInHanded a C os f .any (fun w args=>(s.pre enc C.prog fn conds apart w args∧X w args)∧sizedMet enc C.prog fn (OpenSpec.ofChange s) apart w args) (s.post enc C.prog fn apart fresh handsOn again):=by
 refine returnsInHanded_of_calls own started noInit witness ?_
 intro w tape i _ hsh _ hok hpre _
 obtain ⟨_,_,_,fn',hfn',_,_,_,_,hval⟩:=hok
 have e:fn'=fn:=Option.some.inj (hfn'.symm.trans hfn)
 subst e
 obtain ⟨⟨⟨ds,gs,before,hw,hc⟩,hx⟩,hz⟩:=hpre
 have hw':=DataW.Whole.of_heap (w':=w.forCall tape i) (by rfl) hw
 refine (contract (w.forCall tape i) w.heap.size i.args ds gs before hval hw' hc (hX _ _ _ (by rfl) hx) hsh (hz.weights hw)).mono fun e W' ⟨v,he,hp⟩=>?_
 subst he
 exact ChangeSpec.post_blind hp
end Go.Proofs.YtcgmnagcgkhogaaGreatDoor
namespace Go.Proofs.YtcgmnagcgkhogaaGreatDoor
open Go Go.ChangeShapes Go.WideShapes Go.ChangeAt Go.RowKit Go.Sw
theorem and_tt {a b:Bool} (h:a=true) (h2:b=true):(a&&b)=true:=by rw [h,h2]; rfl
theorem cl_may:Tryz.prog.mayEnter=true:=by kernel_rfl
theorem cl_lift:Tryz.prog.liftsFinal=Rows.xmlParsesRow.lifted:=by kernel_rfl
theorem cl_make:Tryz.prog.make=some Rows.xmlParsesRow.make:=by kernel_rfl
theorem cl_heard:Tryz.prog.stopsHeard=true:=by kernel_rfl
theorem cl_keys:Tryz.prog.plainKeys=Rows.xmlParsesRow.plainKeys:=by kernel_rfl
end Go.Proofs.YtcgmnagcgkhogaaGreatDoor
namespace Go.Proofs.YtcgmnagcgkhogaaGreatDoor
open Go.Sw Go.Esc
def quoT:List Value:=[.string (mB #[10]),.string (mB #[38,35,49,48,59]),.string (mB #[9]),.string (mB #[38,35,57,59])]
abbrev _root_.Go.aK:=mB #[38,35,49,48,59]
abbrev _root_.Go.aL:=mB #[38,35,57,59]
theorem newRepQ_ (v:Nat) (W0:World) (H:List Grp):Tri Tryz.prog 70 #[.slice (some ⟨v,0,none⟩) 4 4] W0 ([(v,.cells #[.string (mB #[10]),.string aK,.string (mB #[9]),.string aL] 9 (0,0))]::H) (fun x H'=>∃ b a cap g,x=pt b∧Go.Sw.Own 9 1 (.slice a 4 cap) g 4 quoT∧H'=repG b 0 0 .nilIface (.slice a 4 cap)::g::[(v,.cells #[.string (mB #[10]),.string aK,.string (mB #[9]),.string aL] 9 (0,0))]::H):=by
 refine D5 12 Tryz.func70 ?_
 refine A1 (G_p [0] [0] (k:=A0 (A1 (A1 (A2 (A3 (j:=3) [0,0,0] (k:=?_)))))))
 have hw1:Int.tmod 4 2=4 % 2:=r64 (by omega)
 refine GL_w 5 hw1 kr (A5 [0] [0,6] (k:=A0 (B1 (b:=(4 % 2)==1) kr (fun hc2=>?_) (fun hc2=>?_))))
 exact absurd hc2 (by decide)
 refine A7 (A0 (A1 (A2 (A3 (j:=1) [0] (k:=GL_heap rfl (H':=([]::[(v,.cells #[.string (mB #[10]),.string aK,.string (mB #[9]),.string aL] 9 (0,0))]::H)) (fun w h=>h.flat (List.Perm.refl _)) (L8 (inf:=Tryz.t9) (e:=9) (s:=.slice none 0 0) 4 1 0 rfl rfl Go.Sw.Own.nil (by omega) (by show (0+4) * 16≤140737488355328; omega) (fun v3 g4 hO5=>?_)))))))
 replace hO5:=own_nilE hO5
 obtain ⟨a6,cap7,rfl,hcap8,hrd9⟩:=hO5.shape
 refine A3 (j:=3) [0] (k:=V3 (.agg #[.int .u32 0,.int .i32 0,.int .u32 0,.nilIface,.slice a6 4 cap7]) (fun b10=>C0 (E':=[⟨2,[],pt b10⟩]) [0] [2] (k:=A0 (B4 (B7 [.tmp 2] [pt b10] (k:=?_))))))
 exact ⟨_,_,_,_,rfl,hO5,rfl⟩
def quoOlds:List Value:=[.string (mB #[9]),.string (mB #[10])]
def buildRQ (b:Nat) (a:Option Addr) (cap:Nat) (g:Grp) (H:List Grp) (x:Value) (H':List Grp):Prop:=∃ c aT cT gT a10 c10 g10 a9 c9 g9,x=.iface 184 (pt c)∧Go.Sw.Own 9 1 (.slice aT 2 cT) gT 2 quoOlds∧(Rd (inG g10) (some ⟨a10,0,none⟩) (u8s (mB #[38,35,49,48,59]).data.toList)∧Rd (inG g9) (some ⟨a9,0,none⟩) (u8s (mB #[38,35,57,59]).data.toList))∧H'=[(c,.cells (bsr [(9,.slice (some ⟨a9,0,none⟩) 4 c9),(10,.slice (some ⟨a10,0,none⟩) 5 c10)] (.slice aT 2 cT)) 183 (0,0))]::gT::g10::g9::([(b,.cells #[.int .u32 0,.int .i32 1,.int .u32 0,.nilIface,.slice a 4 cap] 150 (0,0))]::g::H)
theorem buildQ_ (b:Nat) (a:Option Addr) (cap:Nat) (g:Grp) (hr:Rd (inG g) a quoT) (W0:World) (H:List Grp):Tri Tryz.prog 111 #[pt b] W0 ([(b,.cells #[.int .u32 0,.int .i32 1,.int .u32 0,.nilIface,.slice a 4 cap] 150 (0,0))]::g::H) (buildRQ b a cap g H):=by
 refine D5 132 Tryz.func111 ?_
 refine A1 (C3 (E':=[⟨0,[],pt b⟩]) [0] [0] (k:=A0 (A1 (A2 (A3 (j:=3) [0,0,0] (k:=C1 0 4 rfl rfl (C0 (E':=[⟨3,[],.slice a 4 cap⟩]) [0] [3] (k:=A0 ?_))))))))
 refine A1 (A1 (G_p [0,0,0,0,1,1,1,1,1,3] [3,28] (k:=A0 (C5 kr (A7 (A0 (A1 (G_p [0] [3,4] (k:=?_)))))))))
 refine A0 (A1 (A1 (G_p [0] [3,4,5] (k:=A0 (B3 (O0 3 (F5 (A1 ?_))))))))
 refine A1 (G_p [0,0,0,0] [3,4,5,40] (k:=A0 (B9 kr (A7 (A0 (A1 (B3 (A1 ?_))))))))
 refine A1 (A2 (A3 (j:=2) [0,0] (k:=E4 4 0 1 hr (by exact ⟨by decide,by decide,by intro h; cases h⟩) (H7 (0 * 1) (.string (mB #[10])) hr (E0 1 rfl) (fun _=>rfl) (A5 [0,0] [3,4,5,48] (k:=A0 (C5 kr (A7 ?_))))))))
 refine A0 (A1 (A2 (A3 (j:=3) [0,0,0] (k:=E4 4 1 1 hr (by exact ⟨by decide,by decide,by intro h; cases h⟩) (H7 (1 * 1) (.string aK) hr (E0 1 rfl) (fun _=>rfl) (A5 [0,0] [3,4,5,58] (k:=A0 (B9 kr ?_))))))))
 refine G_p [0] [3,4,5] (k:=B8 (A0 (G_p [0,0,0] [3,4,5] (k:=Z4 (F5 (A1 (A1 (G_p [0,0,0,0] [3,4,5,40] (k:=?_)))))))))
 refine A0 (B9 kr (A7 (A0 (A1 (B3 (A1 (A1 (A2 ?_))))))))
 refine A3 (j:=2) [0,0] (k:=E4 4 2 1 hr (by exact ⟨by decide,by decide,by intro h; cases h⟩) (H7 (2 * 1) (.string (mB #[9])) hr (E0 1 rfl) (fun _=>rfl) (A5 [0,0] [3,4,5,48] (k:=A0 (C5 kr (A7 (A0 (A1 ?_))))))))
 refine A2 (A3 (j:=3) [0,0,0] (k:=E4 4 3 1 hr (by exact ⟨by decide,by decide,by intro h; cases h⟩) (H7 (3 * 1) (.string aL) hr (E0 1 rfl) (fun _=>rfl) (A5 [0,0] [3,4,5,58] (k:=A0 (B9 kr (G_p [0] [3,4,5] (k:=B8 ?_))))))))
 refine A0 (G_p [0,0,0] [3,4,5] (k:=Z4 (F5 (A1 (A1 (G_p [0,0,0,0] [3,4,5,40] (k:=A0 (C5 kr ?_))))))))
 refine E7 (A6 (A6 (B6 (A0 (A1 (A1 (C3 (E':=[⟨3,[],.slice a 4 cap⟩,⟨59,[],.bool false⟩]) [0] [3,59] (k:=A0 ?_))))))))
 refine C5 kr (A7 (A0 (A1 (A2 (A3 (j:=3) [0,0,0] (k:=GL_makeLC (i:=3) (ch:=[]) (t:=131) (e:=9) (inf:=Tryz.t9) (l:=0) (m:=2) (c:=[.string eB,.string eB]) rfl rfl kr kr kr kr rfl (by decide) (by decide) (by decide) (by decide) kr kr kr kr (fun b1=>A3 (j:=5) [0] (k:=J0 (.agg (bsr [] (.slice none 0 0))) (fun b2=>?_)))))))))
 refine X2 0 0 (.agg (bsr [] (.slice (some ⟨b1,0,none⟩) 0 2))) (bsr [] (.slice (some ⟨b1,0,none⟩) 0 2)) rfl (A5 [] [3,11] (k:=A0 (A1 (A1 (G_p [0,0,0,0] [3,11,12] (k:=A0 (B3 (O0 3 ?_))))))))
 refine F5 (A1 (A1 (G_p [0,0] [3,11,12,100] (k:=A0 (B9 kr (A7 (A0 (A1 ?_))))))))
 refine B3 (A1 (A2 (A3 (j:=2) [0,0] (k:=E4 4 2 1 hr (by exact ⟨by decide,by decide,by intro h; cases h⟩) (H7 (2 * 1) (.string (mB #[9])) hr (E0 3 rfl) (fun _=>rfl) (G3 (mB #[9]) 0 (fun _=>by decide) (A5 [0] [3,11,12,13] (k:=A0 ?_))))))))
 refine A1 (A2 (A3 (j:=3) [0,0,0] (k:=E4 4 3 1 hr (by exact ⟨by decide,by decide,by intro h; cases h⟩) (H7 (3 * 1) (.string aL) hr (E0 3 rfl) (fun _=>rfl) (A5 [0] [3,11,12,13,14] (k:=A0 (A1 (A1 ?_))))))))
 refine A2 (A3 (j:=2) [0,0] (k:=E9 (ch:=[]) (b:=b2) (off:=0) (len:=256) (sz:=1) (e:=22) (kd:=.u8) (j:=9) (hb:=(fun _=>⟨by decide,by decide⟩)) (k:=C1 (v:=.slice none 0 0) 0 9 rfl kr (A5 [0] [3,11,12,13,14,117] (k:=A0 (B9 kr (A2 (A3 (j:=1) [0] (k:=?_)))))))))
 refine C1 (v:=.slice (some ⟨b1,0,none⟩) 0 2) 0 256 rfl kr (A3 (j:=3) [0] (k:=G8 5 1 [.int .u8 9] (fun b3=>N5 (ch:=[]) (a:=⟨b3,0,none⟩) (cap:=1) (e:=5) (S:=(inG [(b3,.cells #[.int .u8 9] 5 (0,0))])) ([9]) (hrd:=Rd.lit (c:=[.int .u8 9])) (hS:=E0 0 rfl) (k:=G8 9 1 [.string (mB #[9])] (fun b4=>L8 (inf:=Tryz.t9) (e:=9) (s:=.slice (some ⟨b1,0,none⟩) 0 2) 1 0 3 rfl rfl (own_cut0 (c:=[.string eB,.string eB]) rfl) (by omega) (by show (0+1) * 16≤140737488355328; omega) (fun v5 g6 hO7=>?_))))))
 obtain ⟨a8,cap9,rfl,hcap10,hrd11⟩:=hO7.shape
 refine A3 (j:=8) [0] (k:=X2 2 256 (.slice a8 (0+1) cap9) (bsr [] (.slice a8 (0+1) cap9)) rfl (A5 [] [3,11,12,13,14] (k:=A0 (A2 (A3 (j:=2) [0,0] (k:=O8 (ch:=[]) (src:=9) (dst:=22) (e:=5) (s:=aL) (k:=(fun b12 cap13 g14 hcap15 hrd16=>?_))))))))
 refine A3 (j:=4) [0] (k:=E9 (ch:=[]) (b:=b2) (off:=0) (len:=256) (sz:=1) (e:=22) (kd:=.u8) (j:=9) (hb:=(fun _=>⟨by decide,by decide⟩)) (k:=X2 3 9 (.slice (some ⟨b12,0,none⟩) (aL.size) cap13) (bsr [(9,.slice (some ⟨b12,0,none⟩) (aL.size) cap13)] (.slice a8 (0+1) cap9)) rfl (A5 [] [3,11,12] (k:=B8 (A0 (G_p [0,0,0] [3,11,12] (k:=Z4 (F5 ?_))))))))
 refine A1 (A1 (G_p [0,0] [3,11,12,100] (k:=A0 (B9 kr (A7 (A0 (A1 (B3 ?_))))))))
 refine A1 (A2 (A3 (j:=2) [0,0] (k:=E4 4 0 1 hr (by exact ⟨by decide,by decide,by intro h; cases h⟩) (H7 (0 * 1) (.string (mB #[10])) hr (E0 6 rfl) (fun _=>rfl) (G3 (mB #[10]) 0 (fun _=>by decide) (A5 [0] [3,11,12,13] (k:=A0 (A1 ?_))))))))
 refine A2 (A3 (j:=3) [0,0,0] (k:=E4 4 1 1 hr (by exact ⟨by decide,by decide,by intro h; cases h⟩) (H7 (1 * 1) (.string aK) hr (E0 6 rfl) (fun _=>rfl) (A5 [0] [3,11,12,13,14] (k:=A0 (A1 (A1 (A2 ?_))))))))
 refine A3 (j:=2) [0,0] (k:=E9 (ch:=[]) (b:=b2) (off:=0) (len:=256) (sz:=1) (e:=22) (kd:=.u8) (j:=10) (hb:=(fun _=>⟨by decide,by decide⟩)) (k:=C1 (v:=.slice none 0 0) 3 10 rfl kr (A5 [0] [3,11,12,13,14,117] (k:=A0 (B9 kr (A2 (A3 (j:=1) [0] (k:=C1 (v:=.slice a8 (0+1) cap9) 3 256 rfl kr ?_))))))))
 refine A3 (j:=3) [0] (k:=G8 5 1 [.int .u8 10] (fun b17=>N5 (ch:=[]) (a:=⟨b17,0,none⟩) (cap:=1) (e:=5) (S:=(inG [(b17,.cells #[.int .u8 10] 5 (0,0))])) ([10]) (hrd:=Rd.lit (c:=[.int .u8 10])) (hS:=E0 0 rfl) (k:=G8 9 1 [.string (mB #[10])] (fun b18=>L8 (inf:=Tryz.t9) 1 0 6 rfl rfl hO7 (by omega) (by show ((0+1)+1) * 16≤140737488355328; omega) (fun v19 g20 hO21=>?_)))))
 obtain ⟨a22,cap23,rfl,hcap24,hrd25⟩:=hO21.shape
 refine A3 (j:=8) [0] (k:=X2 5 256 (.slice a22 ((0+1)+1) cap23) (bsr [(9,.slice (some ⟨b12,0,none⟩) (aL.size) cap13)] (.slice a22 ((0+1)+1) cap23)) rfl (A5 [] [3,11,12,13,14] (k:=A0 (A2 (A3 (j:=2) [0,0] (k:=O8 (ch:=[]) (src:=9) (dst:=22) (e:=5) (s:=aK) (k:=(fun b26 cap27 g28 hcap29 hrd30=>?_))))))))
 refine A3 (j:=4) [0] (k:=E9 (ch:=[]) (b:=b2) (off:=0) (len:=256) (sz:=1) (e:=22) (kd:=.u8) (j:=10) (hb:=(fun _=>⟨by decide,by decide⟩)) (k:=X2 6 10 (.slice (some ⟨b26,0,none⟩) (aK.size) cap27) (bsr [(9,.slice (some ⟨b12,0,none⟩) (aL.size) cap13),(10,.slice (some ⟨b26,0,none⟩) (aK.size) cap27)] (.slice a22 ((0+1)+1) cap23)) rfl (C0 (E':=[⟨3,[],.slice a 4 cap⟩,⟨11,[],pt b2⟩,⟨12,[],.int .i64 0⟩]) [] [3,11,12] (k:=B8 (A0 (G_p [0,0,0] [3,11,12] (k:=Z4 (F5 ?_))))))))
 refine A1 (A1 (G_p [0,0] [3,11,12,100] (k:=A0 (C5 kr (E7 (A6 (A6 (B6 ?_))))))))
 refine A0 (A1 (C3 (E':=[⟨2,[],.iface 184 (pt b2)⟩]) [0,0] [2] (k:=A0 (B4 (F3 (H':=(g28::[(b18,.cells #[.string (mB #[10])] 9 (0,0))]::[(b17,.cells #[.int .u8 10] 5 (0,0))]::g14::[(b4,.cells #[.string (mB #[9])] 9 (0,0))]::[(b2,.cells (bsr [(9,.slice (some ⟨b12,0,none⟩) (aL.size) cap13),(10,.slice (some ⟨b26,0,none⟩) (aK.size) cap27)] (.slice a22 ((0+1)+1) cap23)) 183 (0,0))]::g20::[(b,.cells #[.int .u32 0,.int .i32 1,.int .u32 0,.nilIface,.slice a 4 cap] 150 (0,0))]::g::H)) (fun w h=>h.erase 5) (F3 (H':=(g28::[(b18,.cells #[.string (mB #[10])] 9 (0,0))]::[(b17,.cells #[.int .u8 10] 5 (0,0))]::g14::[(b2,.cells (bsr [(9,.slice (some ⟨b12,0,none⟩) (aL.size) cap13),(10,.slice (some ⟨b26,0,none⟩) (aK.size) cap27)] (.slice a22 ((0+1)+1) cap23)) 183 (0,0))]::g20::[(b,.cells #[.int .u32 0,.int .i32 1,.int .u32 0,.nilIface,.slice a 4 cap] 150 (0,0))]::g::H)) (fun w h=>h.erase 4) (F3 (H':=(g28::[(b18,.cells #[.string (mB #[10])] 9 (0,0))]::g14::[(b2,.cells (bsr [(9,.slice (some ⟨b12,0,none⟩) (aL.size) cap13),(10,.slice (some ⟨b26,0,none⟩) (aK.size) cap27)] (.slice a22 ((0+1)+1) cap23)) 183 (0,0))]::g20::[(b,.cells #[.int .u32 0,.int .i32 1,.int .u32 0,.nilIface,.slice a 4 cap] 150 (0,0))]::g::H)) (fun w h=>h.erase 2) (F3 (H':=(g28::g14::[(b2,.cells (bsr [(9,.slice (some ⟨b12,0,none⟩) (aL.size) cap13),(10,.slice (some ⟨b26,0,none⟩) (aK.size) cap27)] (.slice a22 ((0+1)+1) cap23)) 183 (0,0))]::g20::[(b,.cells #[.int .u32 0,.int .i32 1,.int .u32 0,.nilIface,.slice a 4 cap] 150 (0,0))]::g::H)) (fun w h=>h.erase 1) ?_))))))))
 refine F8 0 [2,2,0,0,0,0] (B7 [.tmp 2] [.iface 184 (pt b2)] (k:=?_))
 refine ⟨b2,a22,cap23,g20,b26,cap27,g28,b12,cap13,g14,rfl,?_,⟨hrd30,hrd16⟩,?_⟩
 exact hO21
 kernel_rfl
def quoRep (g:Grp) (x:Value) (K:List Grp):Prop:=∃ c aT cT gT a10 c10 g10 a9 c9 g9,x=.iface 184 (pt c)∧Go.Sw.Own 9 1 (.slice aT 2 cT) gT 2 quoOlds∧(Rd (inG g10) (some ⟨a10,0,none⟩) (u8s (mB #[38,35,49,48,59]).data.toList)∧Rd (inG g9) (some ⟨a9,0,none⟩) (u8s (mB #[38,35,57,59]).data.toList))∧K=[[(c,.cells (bsr [(9,.slice (some ⟨a9,0,none⟩) 4 c9),(10,.slice (some ⟨a10,0,none⟩) 5 c10)] (.slice aT 2 cT)) 183 (0,0))],gT,g10,g9,g]
theorem buildOnceQ_ (b:Nat) (a:Option Addr) (cap:Nat) (g:Grp) (hr:Rd (inG g) a quoT) (W0:World) (H:List Grp):Tri Tryz.prog 94 #[pt b] W0 ([(b,.cells #[.int .u32 0,.int .i32 1,.int .u32 0,.nilIface,.slice a 4 cap] 150 (0,0))]::g::H) (fun _ H'=>∃ r2 K2,quoRep g r2 K2∧H'=repG b 0 1 r2 (.slice none 0 0)::(K2++H)):=by
 refine D5 10 Tryz.func94 ?_
 refine A1 (A2 (A3 (j:=2) [0,0] (k:=D9 Tryz.func111 (buildQ_ b a cap g hr _ _) ?_)))
 rintro _ _ ⟨c,aT,cT,gT,a10,c10,g10,a9,c9,g9,rfl,hT,hR,rfl⟩
 refine A3 (j:=5) [0,0] (k:=C9 4 3 (.iface 184 (pt c)) rfl (C0 (E':=[⟨0,[],pt b⟩]) [] [0] (k:=A0 (A2 (A3 (j:=3) [0,0,0] (k:=C9 4 4 (.slice none 0 0) rfl (C0 (E':=[]) [] [] (k:=F8 0 [4,0,0,0,0,0] ?_))))))))
 refine B7 [] [] (k:=?_)
 exact ⟨_,_,⟨c,aT,cT,gT,a10,c10,g10,a9,c9,g9,rfl,hT,hR,rfl⟩,rfl⟩
theorem quoOnce (b:Nat) (a:Option Addr) (cap:Nat) (g:Grp) (hr:Rd (inG g) a quoT) (W0:World) (H:List Grp):Tri Tryz.prog 93 #[pt b,.func (.func 94) #[pt b] #[]] W0 (repG b 0 0 .nilIface (.slice a 4 cap)::([g]++H)) (fun _ H'=>∃ r2 K2,quoRep g r2 K2∧H'=repG b 1 0 r2 (.slice none 0 0)::(K2++H)) :=
 onceDo_ b .nilIface (.slice a 4 cap) (.slice none 0 0) [g] (quoRep g) (fun W0 H=>buildOnceQ_ b a cap g hr W0 H) W0 H
theorem repReplaceQ_ (b:Nat) (a:Option Addr) (cap:Nat) (g:Grp) (hr:Rd (inG g) a quoT) (x y:ByteArray) (hrep:∀ c aT cT gT a10 c10 g10 a9 c9 g9 W0 H,Go.Sw.Own 9 1 (.slice aT 2 cT) gT 2 quoOlds→(Rd (inG g10) (some ⟨a10,0,none⟩) (u8s aK.data.toList)∧Rd (inG g9) (some ⟨a9,0,none⟩) (u8s aL.data.toList))→Tri Tryz.prog 211 #[pt c,.string x] W0 ([(c,.cells (bsr [(9,.slice (some ⟨a9,0,none⟩) 4 c9),(10,.slice (some ⟨a10,0,none⟩) 5 c10)] (.slice aT 2 cT)) 183 (0,0))]::gT::g10::g9::H) (fun v H'=>v=.string y∧H'=[(c,.cells (bsr [(9,.slice (some ⟨a9,0,none⟩) 4 c9),(10,.slice (some ⟨a10,0,none⟩) 5 c10)] (.slice aT 2 cT)) 183 (0,0))]::gT::g10::g9::H)) (W0:World) (H:List Grp):Tri Tryz.prog 71 #[pt b,.string x] W0 ([(b,.cells #[.int .u32 0,.int .i32 0,.int .u32 0,.nilIface,.slice a 4 cap] 150 (0,0))]::g::H) (fun v H'=>v=.string y∧H'=H):=by
 refine D5 17 Tryz.func71 ?_
 refine A1 (C3 (E':=[⟨0,[],pt b⟩,⟨1,[],.string x⟩]) [0] [0,1] (k:=A0 (A1 (A2 (A3 (j:=5) [0,0,0,0,0] (k:=D9 Tryz.func93 (quoOnce b a cap g hr _ _) ?_))))))
 rintro _ _ ⟨_,_,⟨c,aT,cT,gT,a10,c10,g10,a9,c9,g9,rfl,hT,hR,rfl⟩,rfl⟩
 refine C0 (E':=[⟨0,[],pt b⟩,⟨1,[],.string x⟩]) [] [0,1] (k:=A0 (A1 (A2 (A3 (j:=3) [0,0,0] (k:=C1 0 3 rfl rfl (A3 (j:=5) [0] (k:=M1 0 [1,1,1,1] (T2 (t:=184) (rv:=pt c) (f:=211) (vs:=[.string x]) (av:=#[pt c,.string x]) (hm:=(fun _=>by kernel_rfl)) (hc:=hrep c aT cT gT a10 c10 g10 a9 c9 g9 _ _ hT hR) (k:=?_)))))))))
 rintro _ _ ⟨rfl,rfl⟩
 refine C0 (E':=[⟨4,[],.string y⟩]) [0] [4] (k:=A0 (B4 (F3 (H':=([(c,.cells (bsr [(9,.slice (some ⟨a9,0,none⟩) 4 c9),(10,.slice (some ⟨a10,0,none⟩) 5 c10)] (.slice aT 2 cT)) 183 (0,0))]::gT::g10::g9::[(b,.cells #[.int .u32 1,.int .i32 0,.int .u32 0,.iface 184 (pt c),.slice none 0 0] 150 (0,0))]::H)) (fun w h=>h.erase 5) (F3 (H':=([(c,.cells (bsr [(9,.slice (some ⟨a9,0,none⟩) 4 c9),(10,.slice (some ⟨a10,0,none⟩) 5 c10)] (.slice aT 2 cT)) 183 (0,0))]::gT::g10::g9::H)) (fun w h=>h.erase 4) (F3 (H':=([(c,.cells (bsr [(9,.slice (some ⟨a9,0,none⟩) 4 c9),(10,.slice (some ⟨a10,0,none⟩) 5 c10)] (.slice aT 2 cT)) 183 (0,0))]::gT::g10::H)) (fun w h=>h.erase 3) (F3 (H':=([(c,.cells (bsr [(9,.slice (some ⟨a9,0,none⟩) 4 c9),(10,.slice (some ⟨a10,0,none⟩) 5 c10)] (.slice aT 2 cT)) 183 (0,0))]::gT::H)) (fun w h=>h.erase 2) (F3 (H':=([(c,.cells (bsr [(9,.slice (some ⟨a9,0,none⟩) 4 c9),(10,.slice (some ⟨a10,0,none⟩) 5 c10)] (.slice aT 2 cT)) 183 (0,0))]::H)) (fun w h=>h.erase 1) (F3 (H':=H) (fun w h=>h.erase 0) ?_))))))))
 refine B7 [.tmp 4] [.string y] (k:=?_)
 exact ⟨rfl,rfl⟩
end Go.Proofs.YtcgmnagcgkhogaaGreatDoor
namespace Go.Esc
def F1 (b:UInt8):Option (List UInt8):=if b=10 then some [38,35,49,48,59] else if b=9 then some [38,35,57,59] else none
theorem quoR_count (l:List UInt8):((C7 F1 l).length:Int)=l.length+(l.count 9:Int) * 3+(l.count 10:Int) * 4:=by
  rw [outR_len]
  induction l with
  | nil=>rfl
  | cons b l ih =>
    simp only [List.map_cons,List.sum_cons,List.length_cons,List.count_cons]
    have hg:gainR F1 b=(if (b==9)=true then 3 else 0)+(if (b==10)=true then 4 else 0):=by
      unfold gainR F1
      by_cases h1:b=10
      subst h1; rfl
      by_cases h2:b=9
      subst h2; rfl
      simp [h1,h2]
    rw [hg]
    split <;> split <;> omega
theorem quoR_same (l:List UInt8) (h1:l.count 9=0) (h2:l.count 10=0):C7 F1 l=l:=by
 refine outR_same _ _ fun b hb=>?_
 unfold F1
 rw [List.count_eq_zero] at h1 h2
 have n1:b≠9:=by rintro rfl; exact h1 hb
 have n2:b≠10:=by rintro rfl; exact h2 hb
 rw [if_neg n2,if_neg n1]
end Go.Esc
namespace Go.Proofs.YtcgmnagcgkhogaaGreatDoor
open Go.Sw Go.Esc
theorem tabQ_case (t a10 a9 c10 c9:_) (x:UInt8) :
  (∃ A L C u,(A,L,C,u)∈[(a10,5,c10,[38,35,49,48,59]),(a9,4,c9,[38,35,57,59])]∧F1 x=some u∧L=u.length ∧
   (bsr [(9,.slice (some ⟨a9,0,none⟩) 4 c9),(10,.slice (some ⟨a10,0,none⟩) 5 c10)] t)[x.toNat]? = some (.slice (some ⟨A,0,none⟩) L C)) ∨
  (F1 x=none∧(bsr [(9,.slice (some ⟨a9,0,none⟩) 4 c9),(10,.slice (some ⟨a10,0,none⟩) 5 c10)] t)[x.toNat]? = some (.slice none 0 0)):=by
 have hx:=x.toNat_lt
 unfold bsr
 rw [List.getElem?_toArray,List.getElem?_append_left (by simpa using hx),List.getElem?_map,List.getElem?_range hx]
 simp only [Option.map_some]
 by_cases h1:x=10
 subst h1; exact .inl ⟨a10,5,c10,_,by simp,rfl,rfl,rfl⟩
 by_cases h2:x=9
 subst h2; exact .inl ⟨a9,4,c9,_,by simp,rfl,rfl,rfl⟩
 refine .inr ⟨by simp [F1,h1,h2],?_⟩
 have n1:x.toNat≠10:=fun h=>h1 (UInt8.toNat_inj.1 h)
 have n2:x.toNat≠9:=fun h=>h2 (UInt8.toNat_inj.1 h)
 have e:∀ (k m:Nat),m≠k→(m==k)=false:=fun k m h=>beq_eq_false_iff_ne.2 h
 simp only [List.lookup,e _ _ n1,e _ _ n2,Option.getD_none]
end Go.Proofs.YtcgmnagcgkhogaaGreatDoor
namespace Go.Proofs.YtcgmnagcgkhogaaGreatDoor
open Go.Sw Go.Esc
theorem tab_rowQ {a10 c10 a9 c9:Nat} {g10 g9:Grp} (h:Rd (inG g10) (some ⟨a10,0,none⟩) (u8s (mB #[38,35,49,48,59]).data.toList)∧Rd (inG g9) (some ⟨a9,0,none⟩) (u8s (mB #[38,35,57,59]).data.toList)) {A L C:Nat} {u:List UInt8} (hm:(A,L,C,u)∈[(a10,5,c10,([38,35,49,48,59]:List UInt8)),(a9,4,c9,[38,35,57,59])]) (W0:World) (X Y Z:Grp) (H:List Grp) :
  ∃ Q,Rd Q (some ⟨A,0,none⟩) (u8s u)∧∀ y o,Q y o→At W0 (X::Y::Z::([g10,g9]++H)) y o:=by
 obtain ⟨h1,h2⟩:=h
 have at5:∀ g,g∈[g10,g9]→∀ y o,inG g y o→At W0 (X::Y::Z::([g10,g9]++H)) y o:=fun g hg y o h=>At.mem (List.mem_cons_of_mem _ (List.mem_cons_of_mem _ (List.mem_cons_of_mem _ (List.mem_append_left H hg)))) h
 simp only [List.mem_cons,List.not_mem_nil,or_false,Prod.mk.injEq] at hm
 rcases hm with ⟨rfl,rfl,rfl,rfl⟩ | ⟨rfl,rfl,rfl,rfl⟩
 exact ⟨_,h1,at5 _ (by simp)⟩
 exact ⟨_,h2,at5 _ (by simp)⟩
def anyRQ (l:List UInt8):Bool:=l.any fun b=>(F1 b).isSome
theorem anyR_snocQ (l:List UInt8) (b:UInt8):anyRQ (l++[b])=(anyRQ l||(F1 b).isSome):=by simp [anyRQ]
theorem S7 (b:UInt8) {u:List UInt8} (h:F1 b=some u):C7 F1 [b]=u:=by simp [C7,h]
theorem Q4 (b:UInt8) (h:F1 b=none):C7 F1 [b]=[b]:=by simp [C7,h]
theorem anyR_sameQ (l:List UInt8) (h:anyRQ l=false):C7 F1 l=l:=by
 refine outR_same _ _ fun b hb=>?_
 unfold anyRQ at h
 rw [List.any_eq_false] at h
 have:=h b hb
 cases hr:F1 b with
 | none=>rfl
 | some u=>rw [hr] at this; exact absurd rfl this
theorem A0b (l:List UInt8) {i:Nat} (h:i<l.length):C7 F1 l=C7 F1 (l.take i)++(C7 F1 [l.getD i 0]++C7 F1 (l.drop (i+1))):=by
 rw [← N9,← N9,← List.append_assoc,← take_succ l h,List.take_append_drop]
theorem u_posQ {b:UInt8} {u:List UInt8} (h:F1 b=some u):4≤u.length∧u.length≤6:=by
 unfold F1 at h
 (repeat' split at h) <;> first | (injection h with h; subst h; exact ⟨by decide,by decide⟩) | cases h
theorem outR_le6Q (l:List UInt8):l.length≤(C7 F1 l).length∧(C7 F1 l).length≤6 * l.length:=by
  induction l with
  | nil=>exact ⟨Nat.le_refl _,Nat.le_refl _⟩
  | cons b l ih =>
    rw [Y9,List.length_append,List.length_cons]
    have:1≤((F1 b).getD [b]).length∧((F1 b).getD [b]).length≤6:=by
      cases h:F1 b with
      | none=>exact ⟨Nat.le_refl _,by show 1≤6; decide⟩
      | some u=>have:=u_posQ h; show 1≤u.length∧u.length≤6; omega
    omega
theorem count_9 (s:ByteArray) (W0:World) (H:List Grp):Tri Tryz.prog 121 #[.string s,.string (mB #[9])] W0 H (fun v H'=>v=.int .i64 (s.data.toList.count 9:Int)∧H'=H):=by
 refine D5 34 Tryz.func121 ?_
 refine A1 (G_p [0] [0,1] (k:=A0 (A1 (A1 (G_p [0,0,0] [0,1,9] (k:=A0 (C5 kr (A7 ?_))))))))
 refine A0 (A1 (A1 (G_p [0,0,0] [0,1,15] (k:=A0 (B9 kr (A1 (A2 (A3 (j:=2) [0,0] (k:=?_)))))))))
 refine G3 (mB #[9]) 0 (fun _=>by decide) (R3 (ch:=[]) (f:=134) (vs:=[.string s,.int .u8 9]) (v:=.int .i64 (s.data.toList.count 9:Int)) (e:=Extern.BytealgCount.count) (hf:=Tryz.func134) (hrun:=(fun w=>run_cnt s 9 w)) (k:=A5 [0] [4] (k:=A0 (B4 (A4 (B7 [.tmp 4] [.int .i64 (s.data.toList.count 9:Int)] (k:=?_)))))))
 exact ⟨rfl,rfl⟩
theorem count_10 (s:ByteArray) (W0:World) (H:List Grp):Tri Tryz.prog 121 #[.string s,.string (mB #[10])] W0 H (fun v H'=>v=.int .i64 (s.data.toList.count 10:Int)∧H'=H):=by
 refine D5 34 Tryz.func121 ?_
 refine A1 (G_p [0] [0,1] (k:=A0 (A1 (A1 (G_p [0,0,0] [0,1,9] (k:=A0 (C5 kr (A7 ?_))))))))
 refine A0 (A1 (A1 (G_p [0,0,0] [0,1,15] (k:=A0 (B9 kr (A1 (A2 (A3 (j:=2) [0,0] (k:=?_)))))))))
 refine G3 (mB #[10]) 0 (fun _=>by decide) (R3 (ch:=[]) (f:=134) (vs:=[.string s,.int .u8 10]) (v:=.int .i64 (s.data.toList.count 10:Int)) (e:=Extern.BytealgCount.count) (hf:=Tryz.func134) (hrun:=(fun w=>run_cnt s 10 w)) (k:=A5 [0] [4] (k:=A0 (B4 (A4 (B7 [.tmp 4] [.int .i64 (s.data.toList.count 10:Int)] (k:=?_)))))))
 exact ⟨rfl,rfl⟩
theorem tabReplaceQ_ (c c10 c9:Nat) (aT:Option Addr) (cT:Nat) (gT:Grp) (a10 a9:Nat) (g10 g9:Grp) (s:ByteArray) (hs:s.size≤2000000) (hT:Go.Sw.Own 9 1 (.slice aT 2 cT) gT 2 quoOlds) (hR:Rd (inG g10) (some ⟨a10,0,none⟩) (u8s aK.data.toList)∧Rd (inG g9) (some ⟨a9,0,none⟩) (u8s aL.data.toList)) (W0:World) (H:List Grp):Tri Tryz.prog 211 #[pt c,.string s] W0 ([(c,.cells (bsr [(9,.slice (some ⟨a9,0,none⟩) 4 c9),(10,.slice (some ⟨a10,0,none⟩) 5 c10)] (.slice aT 2 cT)) 183 (0,0))]::gT::g10::g9::H) (fun v H'=>v=.string ⟨(C7 F1 s.data.toList).toArray⟩∧H'=([(c,.cells (bsr [(9,.slice (some ⟨a9,0,none⟩) 4 c9),(10,.slice (some ⟨a10,0,none⟩) 5 c10)] (.slice aT 2 cT)) 183 (0,0))]::gT::g10::g9::H)):=by
 have hrT:Rd (inG gT) aT quoOlds:=by
  obtain ⟨a',c',he,_,hr⟩:=hT.shape
  injection he with h1 h2 h3; subst h1; exact hr
 have ho6:=outR_le6Q s.data.toList
 rw [show s.data.toList.length=s.size from Array.length_toList] at ho6
 have hlen:s.data.toList.length=s.size:=Array.length_toList
 have hcnt10:=List.count_le_length (a:=(10:UInt8)) (l:=s.data.toList)
 have hcnt9:=List.count_le_length (a:=(9:UInt8)) (l:=s.data.toList)
 refine D5 122 Tryz.func211 ?_
 refine A1 (C3 (E':=[⟨0,[],pt c⟩,⟨1,[],.string s⟩]) [0] [0,1] (k:=A0 (A1 (G_p [0,0,0] [0,1,5] (k:=A0 (A1 (G_p [0] [0,1,5,6] (k:=A0 ?_))))))))
 refine A1 (A1 (A2 (A3 (j:=3) [0,0,0] (k:=C2 (ch:=[]) (b:=c) (off:=256) (v:=.slice aT 2 cT) (hA:=At.grp 0 0 rfl rfl) (hv:=kr) (k:=A5 [0,0,0,0,0] [0,1,5,6,26] (k:=A0 (P7 (T:=Int × Bool) (fun ξ:Int × Bool=>[⟨0,[],pt c⟩,⟨1,[],.string s⟩,⟨5,[],.int .i64 ξ.1⟩,⟨6,[],.bool ξ.2⟩]) (fun ξ:Int × Bool=>([(c,.cells (bsr [(9,.slice (some ⟨a9,0,none⟩) 4 c9),(10,.slice (some ⟨a10,0,none⟩) 5 c10)] (.slice aT 2 cT)) 183 (0,0))]::gT::g10::g9::H)) (fun ξ:Int × Bool=>(ξ.1=((C7 F1 s.data.toList).length:Int))∧(ξ.2=false→(C7 F1 s.data.toList)=s.data.toList)) ?_ ?_)))))))
 ·
  refine B1 (b:=decide (16≤(s.size:Int))) kr (fun hc1=>?_) (fun hc1=>?_)
  ·
   try simp only [decide_eq_true_eq] at hc1
   refine A1 (A2 (A3 (j:=3) [0,0,0] (k:=C2 (ch:=[]) (b:=c) (off:=256) (v:=.slice aT 2 cT) (hA:=At.grp 0 0 rfl rfl) (hv:=kr) (k:=A5 [0,0] [0,1,5,6,30,31,32] (k:=A0 (B3 (O0 3 (F5 ?_))))))))
   refine A1 (G_p [0] [0,1,5,6,30,31,32,33] (k:=A0 (A1 (B9 kr (A7 (A0 (A1 (B3 ?_))))))))
   refine A1 (A2 (E4 2 0 1 hrT (by exact ⟨by decide,by decide,by intro h; cases h⟩) (H7 (0 * 1) (.string (mB #[9])) hrT (E0 1 rfl) (fun _=>rfl) (A5 [0] [0,1,5,6,8,30,31,32] (k:=A0 (A1 (A2 (A3 (j:=2) [0,0] (k:=?_)))))))))
   refine H5 Tryz.func121 (count_9 s _ _) (A5 [0] [0,1,5,6,8,9,30,31,32] (k:=A0 (A1 (G_p [0,0] [0,1,5,6,8,9,30,31,32,40] (k:=A0 (P7 (T:=Int × Bool) (fun ξ:Int × Bool=>[⟨0,[],pt c⟩,⟨1,[],.string s⟩,⟨5,[],.int .i64 ξ.1⟩,⟨6,[],.bool ξ.2⟩,⟨30,[],.slice aT 2 cT⟩,⟨31,[],.int .i64 2⟩,⟨32,[],.int .i64 0⟩]) (fun ξ:Int × Bool=>([(c,.cells (bsr [(9,.slice (some ⟨a9,0,none⟩) 4 c9),(10,.slice (some ⟨a10,0,none⟩) 5 c10)] (.slice aT 2 cT)) 183 (0,0))]::gT::g10::g9::H)) (fun ξ:Int × Bool=>(ξ.1=(s.size:Int)+(s.data.toList.count 9:Int) * 3)∧(ξ.2=false→false=false∧s.data.toList.count 9=0)) ?_ ?_))))))
   ·
    refine B1 (b:=(s.data.toList.count 9:Int) != 0) kr (fun hc2=>?_) (fun hc2=>?_)
    ·
     try simp only [decide_eq_true_eq,decide_eq_false_iff_not] at hc2
     refine A1 (H4 (k:=A3 (j:=4) [0,0,0,0] (k:=G3 (mB #[9]) 0 (fun _=>by decide) (A3 (j:=7) [0,0] (k:=E9 (ch:=[]) (b:=c) (off:=0) (len:=256) (sz:=1) (e:=22) (kd:=.u8) (j:=9) (hb:=(fun _=>⟨by decide,by decide⟩)) (k:=C2 (ch:=[]) (b:=c) (off:=9) (v:=.slice (some ⟨a9,0,none⟩) 4 c9) (hA:=At.grp 0 0 rfl rfl) (hv:=kr) (k:=A3 (j:=12) [0,0,0] (k:=D1 52 ((s.data.toList.count 9:Int) * 3) (by omega) (by omega) kr ?_))))))))
     refine A3 (j:=13) [0] (k:=D1 53 ((s.size:Int)+((s.data.toList.count 9:Int) * 3)) (by omega) (by omega) kr (A5 [0] [0,1,5,30,31,32] (k:=A0 (G_p [0] [0,1,5,6,30,31,32] (k:=E6 ((s.size:Int)+((s.data.toList.count 9:Int) * 3),true) [0,1,5,6,30,31,32] kr (fun w h=>h) ⟨(by first | rfl | (simp only [bne_eq_false_iff_eq] at *; omega)),(by intro h; dsimp only at h; first | exact Bool.noConfusion h | (simp only [bne_eq_false_iff_eq] at *; exact ⟨h,by omega⟩))⟩)))))
    ·
     try simp only [decide_eq_true_eq,decide_eq_false_iff_not] at hc2
     refine A7 (E6 ((s.size:Int),false) [0,1,5,6,30,31,32] kr (fun w h=>h) ⟨(by first | rfl | (simp only [bne_eq_false_iff_eq] at *; omega)),(by intro h; dsimp only at h; first | exact Bool.noConfusion h | (simp only [bne_eq_false_iff_eq] at *; exact ⟨h,by omega⟩))⟩)
   ·
    rintro ⟨n1,b1⟩ ⟨hn1,hb1⟩
    refine B8 (A0 (G_p [0,0] [0,1,5,6,30,31,32] (k:=Z4 (F5 (A1 (G_p [0] [0,1,5,6,30,31,32,33] (k:=A0 (A1 ?_))))))))
    refine B9 kr (A7 (A0 (A1 (B3 (A1 (A2 (E4 2 1 1 hrT (by exact ⟨by decide,by decide,by intro h; cases h⟩) (H7 (1 * 1) (.string (mB #[10])) hrT (E0 1 rfl) (fun _=>rfl) ?_))))))))
    refine A5 [0] [0,1,5,6,8,30,31,32] (k:=A0 (A1 (A2 (A3 (j:=2) [0,0] (k:=H5 Tryz.func121 (count_10 s _ _) (A5 [0] [0,1,5,6,8,9,30,31,32] (k:=A0 (A1 ?_))))))))
    refine G_p [0,0] [0,1,5,6,8,9,30,31,32,40] (k:=A0 (P7 (T:=Int × Bool) (fun ξ:Int × Bool=>[⟨0,[],pt c⟩,⟨1,[],.string s⟩,⟨5,[],.int .i64 ξ.1⟩,⟨6,[],.bool ξ.2⟩,⟨30,[],.slice aT 2 cT⟩,⟨31,[],.int .i64 2⟩,⟨32,[],.int .i64 1⟩]) (fun ξ:Int × Bool=>([(c,.cells (bsr [(9,.slice (some ⟨a9,0,none⟩) 4 c9),(10,.slice (some ⟨a10,0,none⟩) 5 c10)] (.slice aT 2 cT)) 183 (0,0))]::gT::g10::g9::H)) (fun ξ:Int × Bool=>(ξ.1=n1+(s.data.toList.count 10:Int) * 4)∧(ξ.2=false→b1=false∧s.data.toList.count 10=0)) ?_ ?_))
    ·
     refine B1 (b:=(s.data.toList.count 10:Int) != 0) kr (fun hc5=>?_) (fun hc5=>?_)
     ·
      try simp only [decide_eq_true_eq,decide_eq_false_iff_not] at hc5
      refine A1 (H4 (k:=A3 (j:=4) [0,0,0,0] (k:=G3 (mB #[10]) 0 (fun _=>by decide) (A3 (j:=7) [0,0] (k:=E9 (ch:=[]) (b:=c) (off:=0) (len:=256) (sz:=1) (e:=22) (kd:=.u8) (j:=10) (hb:=(fun _=>⟨by decide,by decide⟩)) (k:=C2 (ch:=[]) (b:=c) (off:=10) (v:=.slice (some ⟨a10,0,none⟩) 5 c10) (hA:=At.grp 0 0 rfl rfl) (hv:=kr) (k:=A3 (j:=12) [0,0,0] (k:=D1 52 ((s.data.toList.count 10:Int) * 4) (by omega) (by omega) kr ?_))))))))
      refine A3 (j:=13) [0] (k:=D1 53 (n1+((s.data.toList.count 10:Int) * 4)) (by omega) (by omega) kr (A5 [0] [0,1,5,30,31,32] (k:=A0 (G_p [0] [0,1,5,6,30,31,32] (k:=E6 (n1+((s.data.toList.count 10:Int) * 4),true) [0,1,5,6,30,31,32] kr (fun w h=>h) ⟨(by first | rfl | (simp only [bne_eq_false_iff_eq] at *; omega)),(by intro h; dsimp only at h; first | exact Bool.noConfusion h | (simp only [bne_eq_false_iff_eq] at *; exact ⟨h,by omega⟩))⟩)))))
     ·
      try simp only [decide_eq_true_eq,decide_eq_false_iff_not] at hc5
      refine A7 (E6 (n1,b1) [0,1,5,6,30,31,32] kr (fun w h=>h) ⟨(by first | rfl | (simp only [bne_eq_false_iff_eq] at *; omega)),(by intro h; dsimp only at h; first | exact Bool.noConfusion h | (simp only [bne_eq_false_iff_eq] at *; exact ⟨h,by omega⟩))⟩)
    rintro ⟨n2,b2⟩ ⟨hn2,hb2⟩
    refine B8 (A0 (G_p [0,0] [0,1,5,6,30,31,32] (k:=Z4 (F5 (A1 (G_p [0] [0,1,5,6,30,31,32,33] (k:=A0 (A1 ?_))))))))
    refine C5 kr (E7 (A6 (A6 (B6 (E6 (n2,b2) [0,1,5,6] kr (fun w h=>h) ⟨(by rw [quoR_count,show s.data.toList.length=s.size from Array.length_toList]; omega),(by intro h; obtain ⟨h1,h2⟩:=hb2 h; obtain ⟨_,h4⟩:=hb1 h1; exact quoR_same _ h4 h2)⟩)))))
  ·
   try simp only [decide_eq_false_iff_not] at hc1
   refine A1 (G_p [0] [0,1,5,6,10] (k:=A0 (B3 (I5 (EI:=(fun ξ:Nat × Int × Bool=>[⟨0,[],pt c⟩,⟨1,[],.string s⟩,⟨5,[],.int .i64 ξ.2.1⟩,⟨6,[],.bool ξ.2.2⟩,⟨10,[],.int .i64 (ξ.1:Int)⟩])) (HI:=(fun ξ:Nat × Int × Bool=>([(c,.cells (bsr [(9,.slice (some ⟨a9,0,none⟩) 4 c9),(10,.slice (some ⟨a10,0,none⟩) 5 c10)] (.slice aT 2 cT)) 183 (0,0))]::gT::g10::g9::H))) (Φ:=(fun ξ:Nat × Int × Bool=>(ξ.1≤s.size)∧(ξ.2.1=((C7 F1 (s.data.toList.take ξ.1)).length:Int)+s.size - ξ.1)∧(ξ.2.2=anyRQ (s.data.toList.take ξ.1)))) (μ:=(fun ξ:Nat × Int × Bool=>s.size - ξ.1)) (s0:=(0,(s.size:Int),false)) [0,1,5,6,10] kr rfl ⟨(by omega),(by dsimp only; simp [outR_nil]),rfl⟩ ?_))))
   rintro ⟨i,ns,ac⟩ ⟨hi,hns,hac⟩
   dsimp only at hi hns hac
   have hto:=outR_le6Q (s.data.toList.take i)
   rw [List.length_take,hlen,Nat.min_eq_left hi] at hto
   refine A1 (A1 (G_p [0,0,0,0] [0,1,5,6,10,58] (k:=A0 (B1 (b:=decide ((i:Int)<(s.size:Int))) kr (fun hc8=>?_) (fun hc8=>?_)))))
   ·
    try simp only [decide_eq_true_eq] at hc8
    refine A7 (A0 (A1 (B3 (A1 (A2 (A3 (j:=2) [0,0] (k:=G3 s (i:Int) (fun _=>by omega) ?_)))))))
    have hb9:=E5 s (i:Int)
    refine A5 [0] [0,1,5,6,10,11] (k:=A0 (A1 (A2 (A3 (j:=4) [0,0,0,0] (k:=E9 (ch:=[]) (b:=c) (off:=0) (len:=256) (sz:=1) (e:=22) (kd:=.u8) (j:=B2 s (i:Int)) (hb:=(fun _=>by have hbx:=E5 s (i:Int); exact ⟨by omega,by omega⟩)) (k:=?_))))))
    rcases tabQ_case (.slice aT 2 cT) a10 a9 c10 c9 (s.data.toList.getD i 0) with ⟨A,L,C,u,hmem,hu,hL,hcell⟩ | ⟨hu,hcell⟩
    have hu4:=u_posQ hu
    have hsp:=congrArg List.length (A0b s.data.toList (show i<s.data.toList.length by omega))
    rw [S7 _ hu] at hsp
    simp only [List.length_append] at hsp
    refine C2 (ch:=[]) (b:=c) (off:=0+Int.toNat (B2 s (i:Int)) * 1) (v:=.slice (some ⟨A,0,none⟩) L C) (hA:=At.grp 0 0 rfl rfl) (hv:=(by rw [T6]; exact hcell)) (k:=A5 [0] [0,1,5,6,10,11,70] (k:=A0 (B9 kr (A1 (A2 (A3 (j:=5) [0,0,0,0,0] (k:=E9 (ch:=[]) (b:=c) (off:=0) (len:=256) (sz:=1) (e:=22) (kd:=.u8) (j:=B2 s (i:Int)) (hb:=(fun _=>by have hbx:=E5 s (i:Int); exact ⟨by omega,by omega⟩)) (k:=C2 (ch:=[]) (b:=c) (off:=0+Int.toNat (B2 s (i:Int)) * 1) (v:=.slice (some ⟨A,0,none⟩) L C) (hA:=At.grp 0 0 rfl rfl) (hv:=(by rw [T6]; exact hcell)) (k:=?_)))))))))
    refine A3 (j:=9) [0,0] (k:=D1 79 (((L:Nat):Int) - 1) (by omega) (by omega) kr (A3 (j:=10) [0] (k:=D1 80 (ns+(((L:Nat):Int) - 1)) (by omega) (by omega) kr (A5 [0] [0,1,5,10] (k:=A0 (G_p [0] [0,1,5,6,10] (k:=B8 (A0 ?_))))))))
    refine A2 (A3 (j:=2) [0,0] (k:=D1 60 ((i:Int)+1) (by omega) (by omega) kr (A5 [0] [0,1,5,6,10] (k:=D2 (s':=(i+1,ns+(((L:Nat):Int) - 1),true)) [0,1,5,6,10] kr rfl ⟨(by omega),(by dsimp only; rw [take_succ _ (show i<s.data.toList.length by omega),N9,List.length_append]; first | (rw [S7 _ hu]; omega) | (rw [Q4 _ hu]; simp only [List.length_cons,List.length_nil]; omega)),(by dsimp only; rw [take_succ _ (show i<s.data.toList.length by omega),anyR_snocQ,hu]; simp [])⟩ (by omega)))))
    have hsp:=congrArg List.length (A0b s.data.toList (show i<s.data.toList.length by omega))
    rw [Q4 _ hu] at hsp
    simp only [List.length_append,List.length_cons,List.length_nil] at hsp
    refine C2 (ch:=[]) (b:=c) (off:=0+Int.toNat (B2 s (i:Int)) * 1) (v:=.slice none 0 0) (hA:=At.grp 0 0 rfl rfl) (hv:=(by rw [T6]; exact hcell)) (k:=A5 [0] [0,1,5,6,10,11,70] (k:=A0 (C5 kr (A7 (B8 (A0 (A2 (A3 (j:=2) [0,0] (k:=?_)))))))))
    refine D1 60 ((i:Int)+1) (by omega) (by omega) kr (A5 [0] [0,1,5,6,10] (k:=D2 (s':=(i+1,ns,ac)) [0,1,5,6,10] kr rfl ⟨(by omega),(by dsimp only; rw [take_succ _ (show i<s.data.toList.length by omega),N9,List.length_append]; first | (rw [S7 _ hu]; omega) | (rw [Q4 _ hu]; simp only [List.length_cons,List.length_nil]; omega)),(by dsimp only; rw [take_succ _ (show i<s.data.toList.length by omega),anyR_snocQ,hu]; simp [hac])⟩ (by omega)))
   ·
    try simp only [decide_eq_false_iff_not] at hc8
    refine E7 (A6 (A6 (B6 (E6 (ns,ac) [0,1,5,6] kr (fun w h=>h) ⟨(by rw [show i=s.data.toList.length by rw [show s.data.toList.length=s.size from Array.length_toList]; omega] at hns; rw [List.take_length] at hns; omega),(by intro h; rw [show i=s.data.toList.length by rw [show s.data.toList.length=s.size from Array.length_toList]; omega] at hac; rw [List.take_length] at hac; exact anyR_sameQ _ (by rw [← hac]; exact h))⟩))))
 ·
  rintro ⟨ns,ac⟩ ⟨hN,hA⟩
  dsimp only at hN hA
  refine L7 (E':=[⟨0,[],pt c⟩,⟨1,[],.string s⟩,⟨5,[],.int .i64 ((C7 F1 s.data.toList).length:Int)⟩,⟨6,[],.bool ac⟩]) (by dsimp only; rw [hN]) (A0 (A1 (A1 (G_p [0,0] [0,1,5,82] (k:=A0 (B1 (b:=!ac) kr (fun hc14=>?_) (fun hc14=>?_)))))))
  ·
   try simp only [decide_eq_true_eq,decide_eq_false_iff_not] at hc14
   refine A1 (C3 (E':=[⟨4,[],.string s⟩]) [0,0] [4] (k:=A0 (B4 (A4 (B7 [.tmp 4] [.string s] (k:=?_))))))
   exact ⟨congrArg Value.string (by rw [hA (by first | assumption | simp_all)]),rfl⟩
  ·
   try simp only [decide_eq_true_eq,decide_eq_false_iff_not] at hc14
   refine A7 (A0 (A1 (A2 (A3 (j:=1) [0] (k:=GL_makeS (ch:=[]) (t:=22) (e:=5) (inf:=Tryz.t5) (l:=(C7 F1 s.data.toList).length) (c:=(T4 [] (C7 F1 s.data.toList).length).toList) (hz:=rfl) (hb:=(by show (1:Int) * _≤_; omega)) (hl:=(by omega)) (hm:=(by show (C7 F1 s.data.toList).length * 1≤16777216; omega)) (hc:=(by rw [Array.toArray_toList]; exact madeZ _)) (k:=(fun B=>A5 [0] [0,1,12] (k:=A0 (A1 ?_)))))))))
   refine G_p [0] [0,1,12,13] (k:=A0 (A1 (A1 (G_p [0] [0,1,12,13,14] (k:=A0 (B3 (R2 (H':=([(B,.cells (T4 [] ((C7 F1 s.data.toList).length)) 5 (0,0))]::[(c,.cells (bsr [(9,.slice (some ⟨a9,0,none⟩) 4 c9),(10,.slice (some ⟨a10,0,none⟩) 5 c10)] (.slice aT 2 cT)) 183 (0,0))]::gT::g10::g9::H)) (fun w h=>by rw [Array.toArray_toList] at h; exact h) (I5 (EI:=(fun ξ:Nat × Nat=>[⟨0,[],pt c⟩,⟨1,[],.string s⟩,⟨12,[],.slice (some ⟨B,0,none⟩) ((C7 F1 s.data.toList).length) ((C7 F1 s.data.toList).length)⟩,⟨13,[],.int .i64 ((C7 F1 (s.data.toList.take ξ.1)).length:Int)⟩,⟨14,[],.int .i64 (ξ.1:Int)⟩])) (HI:=(fun ξ:Nat × Nat=>([(B,.cells (T4 (C7 F1 (s.data.toList.take ξ.1)) (ξ.2)) 5 (0,0))]::[(c,.cells (bsr [(9,.slice (some ⟨a9,0,none⟩) 4 c9),(10,.slice (some ⟨a10,0,none⟩) 5 c10)] (.slice aT 2 cT)) 183 (0,0))]::gT::g10::g9::H))) (Φ:=(fun ξ:Nat × Nat=>(ξ.1≤s.size)∧(ξ.2+(C7 F1 (s.data.toList.take ξ.1)).length=(C7 F1 s.data.toList).length))) (μ:=(fun ξ:Nat × Nat=>s.size - ξ.1)) (s0:=(0,(C7 F1 s.data.toList).length)) [0,1,12,13,14] kr rfl ⟨(by omega),(by simp [outR_nil])⟩ ?_))))))))
   rintro ⟨i,k⟩ ⟨hi,hk⟩
   dsimp only at hi hk
   have hto:=outR_le6Q (s.data.toList.take i)
   rw [List.length_take,hlen,Nat.min_eq_left hi] at hto
   have hto2:=outR_le6Q (s.data.toList.drop (i+1))
   refine A1 (A1 (G_p [0,0,0,0] [0,1,12,13,14,89] (k:=A0 (B1 (b:=decide ((i:Int)<(s.size:Int))) kr (fun hc15=>?_) (fun hc15=>?_)))))
   ·
    try simp only [decide_eq_true_eq] at hc15
    refine A7 (A0 (A1 (B3 (A1 (A2 (A3 (j:=2) [0,0] (k:=G3 s (i:Int) (fun _=>by omega) ?_)))))))
    have hb16:=E5 s (i:Int)
    refine A5 [0] [0,1,12,13,14,15] (k:=A0 (A1 (A2 (A3 (j:=4) [0,0,0,0] (k:=E9 (ch:=[]) (b:=c) (off:=0) (len:=256) (sz:=1) (e:=22) (kd:=.u8) (j:=B2 s (i:Int)) (hb:=(fun _=>by have hbx:=E5 s (i:Int); exact ⟨by omega,by omega⟩)) (k:=?_))))))
    rcases tabQ_case (.slice aT 2 cT) a10 a9 c10 c9 (s.data.toList.getD i 0) with ⟨A,L,C,u,hmem,hu,hL,hcell⟩ | ⟨hu,hcell⟩
    have hu4:=u_posQ hu
    have hsp:=congrArg List.length (A0b s.data.toList (show i<s.data.toList.length by omega))
    rw [S7 _ hu] at hsp
    simp only [List.length_append] at hsp
    refine C2 (ch:=[]) (b:=c) (off:=0+Int.toNat (B2 s (i:Int)) * 1) (v:=.slice (some ⟨A,0,none⟩) L C) (hA:=At.grp 1 0 rfl rfl) (hv:=(by rw [T6]; exact hcell)) (k:=A5 [0] [0,1,12,13,14,15,101] (k:=A0 (B9 kr (H3 ([(c,.cells (bsr [(9,.slice (some ⟨a9,0,none⟩) 4 c9),(10,.slice (some ⟨a10,0,none⟩) 5 c10)] (.slice aT 2 cT)) 183 (0,0))]::gT::g10::g9::H) kr (G0 (fuel:=10) [(0,0),(1,0),(2,0)] (fun w h=>(h.pk 1 [1,1,1,1])) (k:=F6 (E':=[⟨105,[],.slice (cutA (some ⟨B,0,none⟩) ((C7 F1 s.data.toList).length) (Int.toNat ((C7 F1 (s.data.toList.take i)).length:Int)) 1) ((Int.toNat (((C7 F1 s.data.toList).length:Nat):Int)) - (Int.toNat ((C7 F1 (s.data.toList.take i)).length:Int))) ((C7 F1 s.data.toList).length - (Int.toNat ((C7 F1 (s.data.toList.take i)).length:Int)))⟩,⟨104,[],.int .i64 ((C7 F1 (s.data.toList.take i)).length:Int)⟩,⟨103,[],.slice (some ⟨B,0,none⟩) ((C7 F1 s.data.toList).length) ((C7 F1 s.data.toList).length)⟩,⟨102,[],.int .i64 ((C7 F1 (s.data.toList.take i)).length:Int)⟩,⟨0,[],pt c⟩,⟨1,[],.string s⟩,⟨12,[],.slice (some ⟨B,0,none⟩) ((C7 F1 s.data.toList).length) ((C7 F1 s.data.toList).length)⟩,⟨13,[],.int .i64 ((C7 F1 (s.data.toList.take i)).length:Int)⟩,⟨14,[],.int .i64 (i:Int)⟩,⟨15,[],.int .u8 (B2 s (i:Int))⟩,⟨101,[],.bool true⟩]) 3 kr (fun w h=>(h.pk 1 [1,1,1,1])) ?_ ?_))))))
    exact GL_sliceL (ch:=[]) (a:=(some ⟨B,0,none⟩)) (len:=(C7 F1 s.data.toList).length) (cap:=(C7 F1 s.data.toList).length) (e:=5) (sz:=1) (vl:=(some (.int .i64 ((C7 F1 (s.data.toList.take i)).length:Int)))) (vh:=none) (l:=((C7 F1 (s.data.toList.take i)).length:Int)) (h:=(((C7 F1 s.data.toList).length:Nat):Int)) (hb:=(fun _=>by omega)) (k:=G5)
    refine GH_env (E':=[⟨105,[],.slice (some ⟨B,(C7 F1 (s.data.toList.take i)).length,none⟩) ((C7 F1 s.data.toList).length - (C7 F1 (s.data.toList.take i)).length) ((C7 F1 s.data.toList).length - (C7 F1 (s.data.toList.take i)).length)⟩,⟨104,[],.int .i64 ((C7 F1 (s.data.toList.take i)).length:Int)⟩,⟨103,[],.slice (some ⟨B,0,none⟩) ((C7 F1 s.data.toList).length) ((C7 F1 s.data.toList).length)⟩,⟨102,[],.int .i64 ((C7 F1 (s.data.toList.take i)).length:Int)⟩,⟨0,[],pt c⟩,⟨1,[],.string s⟩,⟨12,[],.slice (some ⟨B,0,none⟩) ((C7 F1 s.data.toList).length) ((C7 F1 s.data.toList).length)⟩,⟨13,[],.int .i64 ((C7 F1 (s.data.toList.take i)).length:Int)⟩,⟨14,[],.int .i64 (i:Int)⟩,⟨15,[],.int .u8 (B2 s (i:Int))⟩,⟨101,[],.bool true⟩]) (by rw [Int.toNat_natCast,Int.toNat_natCast,cut_some (by omega)]) (G0 (fuel:=7) [(4,0),(5,0)] (fun w h=>(h.pk 1 [1,1,1,1])) (k:=J3 (ad:=⟨c,0,none⟩) 6 (hL:=(fun w h=>(h.pk 1 [1,1,1,1]))) (k:=G0 (fuel:=5) [(7,0)] (fun w h=>(h.pk 1 [1,1,1,1])) (k:=F6 8 (hL:=(fun w h=>(h.pk 1 [1,1,1,1]))) (hy:=E9 (i:=8) (ch:=[]) (b:=c) (off:=0) (len:=256) (sz:=1) (e:=22) (kd:=.u8) (j:=B2 s (i:Int)) (hb:=(fun _=>by have hbx:=E5 s (i:Int); exact ⟨by omega,by omega⟩)) (k:=G5 kr rfl)) (k:=F6 9 kr (fun w h=>(h.pk 1 [1,1,1,1])) (C2 (i:=9) (ch:=[]) (b:=c) (off:=0+Int.toNat (B2 s (i:Int)) * 1) (v:=.slice (some ⟨A,0,none⟩) L C) rfl rfl kr kr kr kr kr (At.grp 0 0 rfl rfl) (by rw [T6]; exact hcell) (G5 kr rfl)) (C6 10 (k:=?_)))))))
    obtain ⟨Q,hrd,hQ⟩:=tab_rowQ hR hmem W0 [(B,.cells (T4 (C7 F1 (s.data.toList.take i)) (k)) 5 (0,0))] [(c,.cells (bsr [(9,.slice (some ⟨a9,0,none⟩) 4 c9),(10,.slice (some ⟨a10,0,none⟩) 5 c10)] (.slice aT 2 cT)) 183 (0,0))] gT H
    refine GL_copy (i:=10) (ch:=[]) (dT:=22) (sT:=22) (el:=5) (b:=B) (o1:=(C7 F1 (s.data.toList.take i)).length) (n1:=((C7 F1 s.data.toList).length - (C7 F1 (s.data.toList.take i)).length)) (c1:=((C7 F1 s.data.toList).length - (C7 F1 (s.data.toList.take i)).length)) (a:=⟨A,0,none⟩) (n2:=L) (c2:=C) (c:=T4 (C7 F1 (s.data.toList.take i)) k) (c':=T4 (C7 F1 (s.data.toList.take i)++u) (k - u.length)) (j:=0) (m:=0) (H':=([(B,.cells (T4 (C7 F1 (s.data.toList.take i)++u) (k - u.length)) 5 (0,0))]::[(c,.cells (bsr [(9,.slice (some ⟨a9,0,none⟩) 4 c9),(10,.slice (some ⟨a10,0,none⟩) 5 c10)] (.slice aT 2 cT)) 183 (0,0))]::gT::g10::g9::H)) (u8s u) rfl rfl kr kr kr kr kr kr kr rfl rfl (by rw [show (u8s u).length=u.length from List.length_map _,hL]; exact (Nat.min_eq_left (by omega)).symm) (rd_cell hrd hQ) (by rw [W4,show (u8s u).length=u.length from List.length_map _]; omega) (u8s_one u) (rowZ_copy _ _ _ (by omega)) kr ?_
    have hul:(u8s u).length=u.length:=List.length_map _
    refine A9 kr (fun w h=>(h.pk 1 [1,1,1,1])) (G0 (fuel:=1) [(11,0)] (fun w h=>(h.pk 1 [1,1,1,1])) (k:=GH_wi 113 (((C7 F1 (s.data.toList.take i)).length:Int)+((u8s u).length:Int)) (by omega) (by omega) kr (G0 (fuel:=0) [(12,0)] (fun w h=>(h.pk 1 [1,1,1,1])) (k:=D8 (E':=[⟨0,[],pt c⟩,⟨1,[],.string s⟩,⟨12,[],.slice (some ⟨B,0,none⟩) ((C7 F1 s.data.toList).length) ((C7 F1 s.data.toList).length)⟩,⟨13,[],.int .i64 (((C7 F1 (s.data.toList.take i)).length:Int)+((u8s u).length:Int))⟩,⟨14,[],.int .i64 (i:Int)⟩]) [0,1,12,13,14] (k:=B8 (A0 (A2 (A3 (j:=2) [0,0] (k:=?_)))))))))
    refine D1 91 ((i:Int)+1) (by omega) (by omega) kr (A5 [0] [0,1,12,13,14] (k:=?_))
    have hj2:((C7 F1 (s.data.toList.take i)).length:Int)+((u8s u).length:Int)=((C7 F1 (s.data.toList.take (i+1))).length:Int):=by rw [take_succ _ (show i<s.data.toList.length by omega),N9,List.length_append]; first | (rw [S7 _ hu,show (u8s u).length=u.length from List.length_map _]; omega) | (rw [Q4 _ hu]; simp only [List.length_cons,List.length_nil]; omega)
    refine L7 (E':=[⟨0,[],pt c⟩,⟨1,[],.string s⟩,⟨12,[],.slice (some ⟨B,0,none⟩) ((C7 F1 s.data.toList).length) ((C7 F1 s.data.toList).length)⟩,⟨13,[],.int .i64 (((C7 F1 (s.data.toList.take i)).length:Int)+((u8s u).length:Int))⟩,⟨14,[],.int .i64 ((i:Int)+1)⟩]) kr (L7 (E':=[⟨0,[],pt c⟩,⟨1,[],.string s⟩,⟨12,[],.slice (some ⟨B,0,none⟩) ((C7 F1 s.data.toList).length) ((C7 F1 s.data.toList).length)⟩,⟨13,[],.int .i64 ((C7 F1 (s.data.toList.take (i+1))).length:Int)⟩,⟨14,[],.int .i64 ((i:Int)+1)⟩]) (by rw [hj2]) ?_)
    have hl2:(C7 F1 (s.data.toList.take i)++u)=C7 F1 (s.data.toList.take (i+1)):=by rw [take_succ _ (show i<s.data.toList.length by omega),N9]; first | rw [S7 _ hu] | rw [Q4 _ hu]
    refine R5 (H':=([(B,.cells (T4 (C7 F1 (s.data.toList.take (i+1))) (k - u.length)) 5 (0,0))]::[(c,.cells (bsr [(9,.slice (some ⟨a9,0,none⟩) 4 c9),(10,.slice (some ⟨a10,0,none⟩) 5 c10)] (.slice aT 2 cT)) 183 (0,0))]::gT::g10::g9::H)) (by rw [hl2]) (D2 (s':=(i+1,k - u.length)) [0,1,12,13,14] kr rfl ⟨(by omega),(by dsimp only; rw [← hl2,List.length_append]; first | omega | (simp only [List.length_cons,List.length_nil]; omega))⟩ (by omega))
    have hsp:=congrArg List.length (A0b s.data.toList (show i<s.data.toList.length by omega))
    rw [Q4 _ hu] at hsp
    simp only [List.length_append,List.length_cons,List.length_nil] at hsp
    refine C2 (ch:=[]) (b:=c) (off:=0+Int.toNat (B2 s (i:Int)) * 1) (v:=.slice none 0 0) (hA:=At.grp 1 0 rfl rfl) (hv:=(by rw [T6]; exact hcell)) (k:=A5 [0] [0,1,12,13,14,15,101] (k:=A0 (C5 kr (A1 (A2 (A3 (j:=3) [0,0,0] (k:=J9 (ch:=[]) (a:=(some ⟨B,0,none⟩)) (len:=(C7 F1 s.data.toList).length) (cap:=(C7 F1 s.data.toList).length) (kd:=.i64) (j:=((C7 F1 (s.data.toList.take i)).length:Int)) (e:=5) (sz:=1) (S:=inG [(B,.cells (T4 (C7 F1 (s.data.toList.take i)) (k)) 5 (0,0))]) (cs:=(T4 (C7 F1 (s.data.toList.take i)) k).toList) (hrd:=row_rd _ _) (hb:=(fun _=>⟨by omega,by omega,by intro h; have:=congrArg List.length h; rw [Array.length_toList,W4] at this; simp only [List.length_nil] at this; omega⟩)) (k:=GL_env (E':=[⟨117,[],.pointer (some ⟨B,0+Int.toNat ((C7 F1 (s.data.toList.take i)).length:Int) * 1,none⟩)⟩,⟨116,[],.int .u8 (B2 s (i:Int))⟩,⟨115,[],.int .i64 ((C7 F1 (s.data.toList.take i)).length:Int)⟩,⟨114,[],.slice (some ⟨B,0,none⟩) ((C7 F1 s.data.toList).length) ((C7 F1 s.data.toList).length)⟩,⟨0,[],pt c⟩,⟨1,[],.string s⟩,⟨12,[],.slice (some ⟨B,0,none⟩) ((C7 F1 s.data.toList).length) ((C7 F1 s.data.toList).length)⟩,⟨13,[],.int .i64 ((C7 F1 (s.data.toList.take i)).length:Int)⟩,⟨14,[],.int .i64 (i:Int)⟩,⟨15,[],.int .u8 (B2 s (i:Int))⟩,⟨101,[],.bool false⟩]) (by have hz:([⟨117,[],.pointer (some (eltA (some ⟨B,0,none⟩) (Int.toNat ((C7 F1 (s.data.toList.take i)).length:Int) * 1)))⟩,⟨116,[],.int .u8 (B2 s (i:Int))⟩,⟨115,[],.int .i64 ((C7 F1 (s.data.toList.take i)).length:Int)⟩,⟨114,[],.slice (some ⟨B,0,none⟩) ((C7 F1 s.data.toList).length) ((C7 F1 s.data.toList).length)⟩,⟨0,[],pt c⟩,⟨1,[],.string s⟩,⟨12,[],.slice (some ⟨B,0,none⟩) ((C7 F1 s.data.toList).length) ((C7 F1 s.data.toList).length)⟩,⟨13,[],.int .i64 ((C7 F1 (s.data.toList.take i)).length:Int)⟩,⟨14,[],.int .i64 (i:Int)⟩,⟨15,[],.int .u8 (B2 s (i:Int))⟩,⟨101,[],.bool false⟩]:List Sl)=[⟨117,[],.pointer (some ⟨B,0+Int.toNat ((C7 F1 (s.data.toList.take i)).length:Int) * 1,none⟩)⟩,⟨116,[],.int .u8 (B2 s (i:Int))⟩,⟨115,[],.int .i64 ((C7 F1 (s.data.toList.take i)).length:Int)⟩,⟨114,[],.slice (some ⟨B,0,none⟩) ((C7 F1 s.data.toList).length) ((C7 F1 s.data.toList).length)⟩,⟨0,[],pt c⟩,⟨1,[],.string s⟩,⟨12,[],.slice (some ⟨B,0,none⟩) ((C7 F1 s.data.toList).length) ((C7 F1 s.data.toList).length)⟩,⟨13,[],.int .i64 ((C7 F1 (s.data.toList.take i)).length:Int)⟩,⟨14,[],.int .i64 (i:Int)⟩,⟨15,[],.int .u8 (B2 s (i:Int))⟩,⟨101,[],.bool false⟩]:=(by rw [show Go.Sw.eltA (some ⟨B,0,none⟩) (Int.toNat ((C7 F1 (s.data.toList.take i)).length:Int) * 1)=⟨B,0+Int.toNat ((C7 F1 (s.data.toList.take i)).length:Int) * 1,none⟩ from O7 _ _ _]); exact Eq.trans kr hz) ?_))))))))
    refine P1 (ch:=[]) (b:=B) (off:=0+Int.toNat ((C7 F1 (s.data.toList.take i)).length:Int) * 1) (v:=.int .u8 (B2 s (i:Int))) (c:=(T4 (C7 F1 (s.data.toList.take i)) (k))) (c':=(T4 (C7 F1 (s.data.toList.take i)++[s.data.toList.getD i 0]) (k - 1))) (j:=0) (m:=0) (H':=([(B,.cells (T4 (C7 F1 (s.data.toList.take i)++[s.data.toList.getD i 0]) (k - 1)) 5 (0,0))]::[(c,.cells (bsr [(9,.slice (some ⟨a9,0,none⟩) 4 c9),(10,.slice (some ⟨a10,0,none⟩) 5 c10)] (.slice aT 2 cT)) 183 (0,0))]::gT::g10::g9::H)) (hoff:=(by rw [W4]; show 0+_ * 1+1≤_; rw [Int.toNat_natCast]; omega)) (hfz:=(fun _ _=>thaw0)) (hc':=(by obtain ⟨k',rfl⟩:∃ k',k=k'+1:=⟨k - 1,by omega⟩; rw [Nat.add_sub_cancel]; show setRow _ _ [.int .u8 (B2 s (i:Int))]=_; rw [byteAt_getD]; exact rowZ_set _ _ _ (by rw [Int.toNat_natCast]; omega))) (hH':=kr) (k:=A5 [] [0,1,12,13,14] (k:=A0 (A2 (A3 (j:=2) [0,0] (k:=D1 119 (((C7 F1 (s.data.toList.take i)).length:Int)+1) (by omega) (by omega) kr (A5 [0] [0,1,12,13,14] (k:=B8 (A0 ?_))))))))
    refine A2 (A3 (j:=2) [0,0] (k:=D1 91 ((i:Int)+1) (by omega) (by omega) kr (A5 [0] [0,1,12,13,14] (k:=?_))))
    have hj2:((C7 F1 (s.data.toList.take i)).length:Int)+1=((C7 F1 (s.data.toList.take (i+1))).length:Int):=by rw [take_succ _ (show i<s.data.toList.length by omega),N9,List.length_append]; first | (rw [S7 _ hu,show (u8s u).length=u.length from List.length_map _]; omega) | (rw [Q4 _ hu]; simp only [List.length_cons,List.length_nil]; omega)
    refine L7 (E':=[⟨0,[],pt c⟩,⟨1,[],.string s⟩,⟨12,[],.slice (some ⟨B,0,none⟩) ((C7 F1 s.data.toList).length) ((C7 F1 s.data.toList).length)⟩,⟨13,[],.int .i64 (((C7 F1 (s.data.toList.take i)).length:Int)+1)⟩,⟨14,[],.int .i64 ((i:Int)+1)⟩]) kr (L7 (E':=[⟨0,[],pt c⟩,⟨1,[],.string s⟩,⟨12,[],.slice (some ⟨B,0,none⟩) ((C7 F1 s.data.toList).length) ((C7 F1 s.data.toList).length)⟩,⟨13,[],.int .i64 ((C7 F1 (s.data.toList.take (i+1))).length:Int)⟩,⟨14,[],.int .i64 ((i:Int)+1)⟩]) (by rw [hj2]) ?_)
    have hl2:(C7 F1 (s.data.toList.take i)++[s.data.toList.getD i 0])=C7 F1 (s.data.toList.take (i+1)):=by rw [take_succ _ (show i<s.data.toList.length by omega),N9]; first | rw [S7 _ hu] | rw [Q4 _ hu]
    refine R5 (H':=([(B,.cells (T4 (C7 F1 (s.data.toList.take (i+1))) (k - 1)) 5 (0,0))]::[(c,.cells (bsr [(9,.slice (some ⟨a9,0,none⟩) 4 c9),(10,.slice (some ⟨a10,0,none⟩) 5 c10)] (.slice aT 2 cT)) 183 (0,0))]::gT::g10::g9::H)) (by rw [hl2]) (D2 (s':=(i+1,k - 1)) [0,1,12,13,14] kr rfl ⟨(by omega),(by dsimp only; rw [← hl2,List.length_append]; first | omega | (simp only [List.length_cons,List.length_nil]; omega))⟩ (by omega))
   ·
    try simp only [decide_eq_false_iff_not] at hc15
    refine E7 (A6 (A6 (B6 (A0 (A1 (A2 (A3 (j:=1) [0] (k:=N5 (ch:=[]) (a:=⟨B,0,none⟩) (cap:=(C7 F1 s.data.toList).length) (e:=5) (S:=(inG [(B,.cells (T4 (C7 F1 (s.data.toList.take i)) (k)) 5 (0,0))])) (C7 F1 s.data.toList) (hrd:=(by have e1:s.data.toList.take i=s.data.toList:=List.take_of_length_le (by omega); have e2:k=0:=(by rw [e1] at hk; omega); rw [e1,e2]; exact rowZ_rd _ rfl)) (hS:=E0 0 rfl) (k:=?_)))))))))
    refine A5 [0] [4] (k:=A0 (B4 (F8 1 [1,1,1,1] (B7 [.tmp 4] [.string ⟨(C7 F1 s.data.toList).toArray⟩] (k:=?_)))))
    exact ⟨rfl,rfl⟩
end Go.Proofs.YtcgmnagcgkhogaaGreatDoor
namespace Go.Sw
open Go.Esc
def mapL (f:Nat→Int):List Value:=(List.range 256).map fun k=>Value.int .u8 (f k)
def J5 (h:List Value) (f:Nat→Int):Array Value:=(h++mapL f).toArray
theorem mapL_len (f:Nat→Int):(mapL f).length=256:=by simp [mapL]
theorem mapL_at {f:Nat→Int} {k:Nat} (hk:k<256):(mapL f)[k]? = some (.int .u8 (f k)):=by
 unfold mapL
 rw [List.getElem?_map,List.getElem?_range hk]; rfl
theorem mapA_at {f:Nat→Int} {k:Nat} {x:Int} (hk:k<256) (hx:f k=x):(mapL f).toArray[k]? = some (.int .u8 x):=by
 rw [List.getElem?_toArray,mapL_at hk,hx]
theorem N0 {h:List Value} {f:Nat→Int} {off:Nat} {v:Value} (hv:h[off]? = some v):(J5 h f)[off]? = some v:=by
 unfold J5
 have h1:off<h.length:=(List.getElem?_eq_some_iff.1 hv).1
 rw [List.getElem?_toArray,List.getElem?_append_left h1,hv]
theorem grpC_at {h:List Value} {f:Nat→Int} {k off:Nat} {x:Int} (hh:h.length=6) (ho:off=6+k) (hk:k<256) (hx:f k=x):(J5 h f)[off]? = some (.int .u8 x):=by
 subst ho
 unfold J5
 rw [List.getElem?_toArray,List.getElem?_append_right (by omega),hh,Nat.add_sub_cancel_left,mapL_at hk,hx]
theorem W8 {h:List Value} {f:Nat→Int} (hh:h.length=6):(J5 h f).size=262:=by
 unfold J5; rw [List.size_toArray,List.length_append,mapL_len,hh]
theorem grpC_map {h:List Value} {f:Nat→Int} (hh:h.length=6):((J5 h f).toList.drop 6).take (mapL f).length=mapL f:=by
 unfold J5
 rw [List.toList_toArray,List.drop_append_of_le_length (by omega),List.drop_eq_nil_of_le (by omega),List.nil_append,List.take_of_length_le (Nat.le_refl _)]
def updF (f:Nat→Int) (k:Nat) (v:Int):Nat→Int:=fun j=>if j=k then v else f j
theorem setRow_one (c:Array Value) (off:Nat) (v:Value):setRow c off [v]=c.setIfInBounds off v:=rfl
theorem grpC_sethd {h:List Value} {f:Nat→Int} {off:Nat} {v:Value} {h':List Value} (ho:off<h.length) (hh:h.set off v=h'):setRow (J5 h f) off [v]=J5 h' f:=by
 subst hh
 rw [setRow_one]
 unfold J5
 apply Array.ext'
 rw [Array.toList_setIfInBounds,List.toList_toArray,List.toList_toArray,List.set_append_left _ _ ho]
theorem grpC_set {h:List Value} {f f':Nat→Int} {off k:Nat} {v:Int} (hh:h.length=6) (ho:off=6+k) (hk:k<256) (hf:∀ j,j<256→f' j=if j=k then v else f j):setRow (J5 h f) off [.int .u8 v]=J5 h f':=by
 subst ho
 rw [setRow_one]
 unfold J5
 apply Array.ext'
 rw [Array.toList_setIfInBounds,List.toList_toArray,List.toList_toArray,List.set_append_right _ _ (by omega),hh,Nat.add_sub_cancel_left]
 congr 1
 apply List.ext_getElem?
 intro i
 rw [List.getElem?_set]
 by_cases hi:i<256
 rw [mapL_at hi,mapL_at hi,hf i hi]
 by_cases e:i=k
 subst e; rw [if_pos rfl,if_pos (by rw [mapL_len]; exact hi),if_pos rfl]
 rw [if_neg (fun h=>e h.symm),if_neg e]
 have n1:∀ g:Nat→Int,(mapL g)[i]? = none:=fun g=>List.getElem?_eq_none (by rw [mapL_len]; omega)
 rw [n1,n1,if_neg (by omega)]
def m1 (k:Nat):Int:=if k=10∨k=13 then 1 else 0
def m2 (k:Nat):Int:=if k=10 then 0 else if k=13 then 1 else 2
def cnt (k:Nat):Int:=(if 10<k then 1 else 0)+(if 13<k then 1 else 0)
theorem cnt_succ (k:Nat):cnt (k+1)=cnt k+m1 k:=by unfold cnt m1; (repeat' split) <;> omega
theorem cnt_bd (k:Nat):0≤cnt k∧cnt k≤2:=by unfold cnt; (repeat' split) <;> omega
theorem m1_bd (k:Nat):0≤m1 k∧m1 k≤1:=by unfold m1; split <;> omega
theorem cnt_m2 {k:Nat} (h:m1 k≠0):cnt k=m2 k:=by unfold m1 at h; unfold cnt m2; (repeat' split at h) <;> (repeat' split) <;> omega
theorem m2_no {k:Nat} (h:m1 k=0):m2 k=2:=by unfold m1 at h; unfold m2; (repeat' split at h) <;> (repeat' split) <;> omega
def Y0 (k j:Nat):Int:=if j<k then m2 j else m1 j
theorem finK_0 (j:Nat):Y0 0 j=m1 j:=by unfold Y0; rw [if_neg (Nat.not_lt_zero _)]
theorem finK_succ {k:Nat} {v:Int} (h:v=m2 k) (j:Nat):Y0 (k+1) j=if j=k then v else Y0 k j:=by
 subst h; unfold Y0; (repeat' split) <;> first | rfl | omega | (subst_vars; rfl)
theorem finK_end {j:Nat} (h:j<256):Y0 256 j=m2 j:=by unfold Y0; rw [if_pos h]
theorem GL_assertI {d:Bool} {P:Program} {ops:Array Oper} {i:Nat} {Q:F0} {n:Fr} {E:Env} {W0:World} {H:List Grp} {o:Oper} {ch:List (Nat × Bool)} {x:Operand} {xt t:TypeId} {u v:Value} {b:Bool}
  (ho:ops[i]? = some o) (hop:o.op=.typeAssert x xt t b) (hx:evO E ch x=some u) (hrun:∀ w,(Instr.typeAssert u xt t b).run P w=.ok v w)
  (hch:D7 ops E o.guard=some ch) (hd:G1 n ch o.dst=true) (hk:K5 E ch=true)
  (kk:GL d P ops (i+1) Q n (Env.put E o.dst ch v) W0 H):GL d P ops i Q n E W0 H:=by
 refine J1 ho hch hd hk (fun r hr _ w _=>?_) kk
 unfold execOp
 simp only [hop]
 rw [hr _ _ hx]
 simp only [Sem.run_bind,hrun,Result.andThen_ok]
 exact ⟨rfl,rfl⟩
theorem GH_nilF {P:Program} {ops:Array Oper} {L:List Grp} {fuel:Nat} {listed:Array Bool} {Q:F0} {n:Fr} {E:Env} {W0:World} {H:List Grp} {o:Oper} {x:Operand} {fn:Fn} {fa fc:Array Value} (i:Nat)
  (ho:ops[i]? = some o:=by exact rfl) (hop:o.op=.nilCheck x:=by exact rfl) (hgd:o.guard=none:=by exact rfl) (hx:evO E [] x=some (.func fn fa fc):=by kernel_rfl) (hrun:∀ w,(execOp (fun _=>.func fn fa fc) o).run P w=.ok (.value (.func fn fa fc)) w) (hd:G1 n [] o.dst=true:=by kernel_rfl)
  (hs:Region.noSelect ops=true:=by kernel_rfl) (hf:Region.free .any ops listed i=true:=by kernel_rfl)
  (hr:(Region.ready .any ops listed).contains i=true:=by kernel_rfl) (hL:∀ w,Sat W0 H w→Sat W0 L w)
  (k:GH P ops L fuel (listed.setIfInBounds i true) Q n (Env.put E o.dst [] (.func fn fa fc)) W0 H):GH P ops L (fuel+1) listed Q n E W0 H:=by
 intro a w ha hsat
 obtain ⟨β,hβ,hat⟩:=ha.at_
 have hv:a.eval x=.func fn fa fc:=L0 hat rfl hx
 have hw:Region.wanted o (yielded ops a.tmps)=true:=by unfold Region.wanted; rw [hgd]
 have hput:Ag n (Env.put E o.dst [] (.func fn fa fc)) (a.put o.dst (.func fn fa fc)):=by
  have:=ha.put hβ hat hd (.func fn fa fc)
  simpa [chT] using this
 refine wpAnyH_take (v:=.func fn fa fc) ho hs hf hr (fun c a w h=>absurd h.1 (by intro h; cases h)) (.inl ⟨hw,fun w' _=>?_⟩) (hL w hsat) (k _ w hput hsat)
 have h:=hrun w'
 unfold execOp at h ⊢
 simp only [hop] at h ⊢
 rw [hv]
 exact h
end Go.Sw
namespace Go.Proofs.YtcgmnagcgkhogaaGreatDoor
open Go.Sw Go.Esc
theorem addE_ (b:Nat) (x:ByteArray) (y nx:Value) (val:ByteArray) (p:Int) (r:Value) (W0:World) (H:List Grp):Tri Tryz.prog 141 #[pt b,.string eB,.string val,.int .i64 p,r] W0 ([(b,.cells #[.string x,.int .i64 0,y,nx,.slice none 0 0] 200 (0,0))]::H) (fun _ H'=>H'=[(b,.cells #[.string val,.int .i64 p,y,nx,.slice none 0 0] 200 (0,0))]::H):=by
 refine D5 241 Tryz.func141 ?_
 refine A1 (A1 (G_p [0,0] [0,1,2,3,4,16] (k:=A0 (B1 (b:=eB.toList==eB.toList) kr (fun hc1=>?_) (fun hc1=>?_)))))
 refine A1 (A1 (A2 (A3 (j:=3) [0,0,0] (k:=C1 0 1 rfl rfl (A5 [0] [0,2,3,21] (k:=A0 (B9 kr (A1 ?_))))))))
 refine A2 (A3 (j:=4) [0,0,0,0] (k:=C9 0 0 (.string val) rfl (C0 (E':=[⟨0,[],pt b⟩,⟨3,[],.int .i64 p⟩]) [] [0,3] (k:=A0 (A2 (A3 (j:=4) [0,0,0,0] (k:=C9 0 1 (.int .i64 p) rfl (C0 (E':=[]) [] [] (k:=?_)))))))))
 refine A0 (B4 (A4 (B7 [] [] (k:=?_))))
 exact rfl
 exact Bool.noConfusion ((hc1).symm.trans (show _=true from by kernel_rfl))
theorem addK_ (b:Nat) (r:Value) (W0:World) (H:List Grp):Tri Tryz.prog 141 #[pt b,.string (mB #[10]),.string (mB #[10]),.int .i64 4,r] W0 ([(b,.cells #[.string eB,.int .i64 0,.string eB,.pointer none,.slice none 0 0] 200 (0,0))]::H) (fun _ H'=>∃ n,H'=[(b,.cells #[.string eB,.int .i64 0,.string (mB #[10]),pt n,.slice none 0 0] 200 (0,0))]::[(n,.cells #[.string (mB #[10]),.int .i64 4,.string eB,.pointer none,.slice none 0 0] 200 (0,0))]::H):=by
 refine D5 241 Tryz.func141 ?_
 refine A1 (A1 (G_p [0,0] [0,1,2,3,4,16] (k:=A0 (B1 (b:=(mB #[10]).toList==eB.toList) kr (fun hc1=>?_) (fun hc1=>?_)))))
 exact Bool.noConfusion ((hc1).symm.trans (show _=false from by kernel_rfl))
 refine A7 (A0 (A1 (A2 (A3 (j:=3) [0,0,0] (k:=C1 0 2 rfl rfl (A5 [0] [0,1,2,3,4,34] (k:=A0 (B1 (b:=!(eB.toList==eB.toList)) kr (fun hc2=>?_) (fun hc2=>?_)))))))))
 exact Bool.noConfusion ((hc2).symm.trans (show _=false from by kernel_rfl))
 refine A1 (A2 (A3 (j:=3) [0,0,0] (k:=C1 0 4 rfl rfl (A5 [0] [0,1,2,3,4,189] (k:=A0 (C5 kr (A1 (A2 ?_))))))))
 refine A3 (j:=4) [0,0,0,0] (k:=C9 0 2 (.string (mB #[10])) rfl (A5 [] [0,2,3,4] (k:=A0 (A1 (A2 (A3 (j:=1) [0] (k:=J0 (.agg #[.string eB,.int .i64 0,.string eB,.pointer none,.slice none 0 0]) (fun b3=>A3 (j:=4) [0,0] (k:=?_)))))))))
 refine C9 1 3 (pt b3) rfl (A5 [] [0,2,3,4] (k:=A0 (A2 (A3 (j:=3) [0,0,0] (k:=C1 1 3 rfl rfl (A3 (j:=7) [0,0,0] (k:=D9 Tryz.func141 (addE_ b3 eB (.string eB) (.pointer none) (mB #[10]) 4 (r) _ _) ?_)))))))
 rintro _ _ rfl
 refine C0 (E':=[]) [] [] (k:=F8 0 [1,0] (B7 [] [] (k:=?_)))
 exact ⟨_,rfl⟩
theorem addR2_ (b t:Nat) (W0:World) (H:List Grp):Tri Tryz.prog 141 #[pt b,.string (mB #[13,10]),.string (mB #[10]),.int .i64 4,pt b] W0 ([(b,.cells (J5 [.string eB,.int .i64 0,.string eB,.pointer none,.slice (some ⟨t,0,none⟩) 2 2,.int .i64 2] (Y0 256)) 202 (0,0))]::[(t,.cells #[.pointer none,.pointer none] 197 (0,0))]::H) (fun _ H'=>∃ n1 n2,H'=[(b,.cells (J5 [.string eB,.int .i64 0,.string eB,.pointer none,.slice (some ⟨t,0,none⟩) 2 2,.int .i64 2] (Y0 256)) 202 (0,0))]::[(t,.cells #[.pointer none,pt n1] 197 (0,0))]::[(n1,.cells #[.string eB,.int .i64 0,.string (mB #[10]),pt n2,.slice none 0 0] 200 (0,0))]::[(n2,.cells #[.string (mB #[10]),.int .i64 4,.string eB,.pointer none,.slice none 0 0] 200 (0,0))]::H):=by
 refine D5 241 Tryz.func141 ?_
 refine A1 (A1 (G_p [0,0] [0,1,2,3,4,16] (k:=A0 (B1 (b:=(mB #[13,10]).toList==eB.toList) kr (fun hc1=>?_) (fun hc1=>?_)))))
 exact Bool.noConfusion ((hc1).symm.trans (show _=false from by kernel_rfl))
 refine A7 (A0 (A1 (A2 (A3 (j:=3) [0,0,0] (k:=C2 (ch:=[]) (b:=b) (off:=2) (v:=.string eB) (hA:=At.grp 0 0 rfl rfl) (hv:=N0 rfl) (k:=A5 [0] [0,1,2,3,4,34] (k:=A0 (B1 (b:=!(eB.toList==eB.toList)) kr (fun hc2=>?_) (fun hc2=>?_)))))))))
 exact Bool.noConfusion ((hc2).symm.trans (show _=false from by kernel_rfl))
 refine A1 (A2 (A3 (j:=3) [0,0,0] (k:=C2 (ch:=[]) (b:=b) (off:=4) (v:=.slice (some ⟨t,0,none⟩) 2 2) (hA:=At.grp 0 0 rfl rfl) (hv:=N0 rfl) (k:=A5 [0] [0,1,2,3,4,189] (k:=A0 (B9 kr (A1 (H4 (k:=?_)))))))))
 refine A3 (j:=2) [0,0] (k:=G3 (mB #[13,10]) 0 (fun _=>by decide) (A3 (j:=5) [0,0] (k:=E9 (ch:=[]) (b:=b) (off:=6) (len:=256) (sz:=1) (e:=5) (kd:=.u8) (j:=13) (hb:=(fun _=>⟨by decide,by decide⟩)) (k:=C2 (ch:=[]) (b:=b) (off:=19) (v:=.int .u8 1) (hA:=At.grp 0 0 rfl rfl) (hv:=grpC_at (k:=13) rfl rfl (by decide) rfl) (k:=A5 [0] [0,1,2,3,4,14] (k:=A0 (A1 (A1 ?_))))))))
 refine A2 (A3 (j:=3) [0,0,0] (k:=C2 (ch:=[]) (b:=b) (off:=4) (v:=.slice (some ⟨t,0,none⟩) 2 2) (hA:=At.grp 0 0 rfl rfl) (hv:=N0 rfl) (k:=A3 (j:=5) [0] (k:=J9 (ch:=[]) (a:=(some ⟨t,0,none⟩)) (len:=2) (cap:=2) (kd:=.u8) (j:=1) (e:=197) (sz:=1) (S:=(inG [(t,.cells #[.pointer none,.pointer none] 197 (0,0))])) (cs:=[.pointer none,.pointer none]) (hrd:=Rd.lit) (hb:=(fun _=>by exact ⟨by omega,by omega,by first | exact List.cons_ne_nil _ _ | (intro h; simp [strs] at h; simp [h] at *; omega)⟩)) (k:=GL_env (E':=[⟨202,[],.pointer (some ⟨t,1,none⟩)⟩,⟨201,[],.int .u8 1⟩,⟨200,[],.slice (some ⟨t,0,none⟩) 2 2⟩,⟨199,[],.pointer (some ⟨b,4,none⟩)⟩,⟨198,[],pt b⟩,⟨197,[],pt b⟩,⟨0,[],pt b⟩,⟨1,[],.string (mB #[13,10])⟩,⟨2,[],.string (mB #[10])⟩,⟨3,[],.int .i64 4⟩,⟨4,[],pt b⟩,⟨14,[],.int .u8 1⟩]) kr (C1 1 1 rfl rfl (A5 [0] [0,1,2,3,4,14,204] (k:=A0 ?_))))))))
 refine B9 kr (A2 (A3 (j:=3) [0,0,0] (k:=C2 (ch:=[]) (b:=b) (off:=4) (v:=.slice (some ⟨t,0,none⟩) 2 2) (hA:=At.grp 0 0 rfl rfl) (hv:=N0 rfl) (k:=A3 (j:=5) [0] (k:=J0 (.agg #[.string eB,.int .i64 0,.string eB,.pointer none,.slice none 0 0]) (fun b3=>J9 (ch:=[]) (a:=(some ⟨t,0,none⟩)) (len:=2) (cap:=2) (kd:=.u8) (j:=1) (e:=197) (sz:=1) (S:=(inG [(t,.cells #[.pointer none,.pointer none] 197 (0,0))])) (cs:=[.pointer none,.pointer none]) (hrd:=Rd.lit) (hb:=(fun _=>by exact ⟨by omega,by omega,by first | exact List.cons_ne_nil _ _ | (intro h; simp [strs] at h; simp [h] at *; omega)⟩)) (k:=GL_env (E':=[⟨211,[],.pointer (some ⟨t,1,none⟩)⟩,⟨210,[],pt b3⟩,⟨209,[],.int .u8 1⟩,⟨208,[],.slice (some ⟨t,0,none⟩) 2 2⟩,⟨207,[],.pointer (some ⟨b,4,none⟩)⟩,⟨206,[],pt b⟩,⟨205,[],pt b⟩,⟨0,[],pt b⟩,⟨1,[],.string (mB #[13,10])⟩,⟨2,[],.string (mB #[10])⟩,⟨3,[],.int .i64 4⟩,⟨4,[],pt b⟩,⟨14,[],.int .u8 1⟩,⟨204,[],.bool true⟩]) kr (C9 2 1 (pt b3) rfl ?_))))))))
 refine A5 [] [0,1,2,3,4,14] (k:=A0 (H3 ([(b,.cells (J5 [.string eB,.int .i64 0,.string eB,.pointer none,.slice (some ⟨t,0,none⟩) 2 2,.int .i64 2] (Y0 256)) 202 (0,0))]::[(t,.cells #[.pointer none,pt b3] 197 (0,0))]::H) kr (G0 (fuel:=12) [(0,0)] (fun w h=>(h.pkT 1 [1,1])) (k:=J3 (ad:=⟨b,0,none⟩) 1 (hL:=(fun w h=>(h.pkT 1 [1,1]))) (k:=G0 (fuel:=10) [(2,0)] (fun w h=>(h.pkT 1 [1,1])) (k:=F6 3 kr (fun w h=>(h.pkT 1 [1,1])) (C2 (i:=3) (ch:=[]) (b:=b) (off:=4) (v:=.slice (some ⟨t,0,none⟩) 2 2) rfl rfl kr kr kr kr kr (At.grp 0 0 rfl rfl) (N0 rfl) (G5 kr rfl)) (G0 (fuel:=8) [(4,0)] (fun w h=>(h.pkT 1 [1,1])) (k:=F6 (E':=[⟨217,[],.pointer (some ⟨t,1,none⟩)⟩,⟨216,[],.int .u8 1⟩,⟨215,[],.slice (some ⟨t,0,none⟩) 2 2⟩,⟨214,[],.pointer (some ⟨b,4,none⟩)⟩,⟨213,[],pt b⟩,⟨212,[],pt b⟩,⟨0,[],pt b⟩,⟨1,[],.string (mB #[13,10])⟩,⟨2,[],.string (mB #[10])⟩,⟨3,[],.int .i64 4⟩,⟨4,[],pt b⟩,⟨14,[],.int .u8 1⟩]) 5 kr (fun w h=>(h.pkT 1 [1,1])) ?_ ?_))))))))
 exact J9 (ch:=[]) (a:=(some ⟨t,0,none⟩)) (len:=2) (cap:=2) (kd:=.u8) (j:=1) (e:=197) (sz:=1) (S:=(inG [(t,.cells #[.pointer none,pt b3] 197 (0,0))])) (cs:=[.pointer none,pt b3]) (hrd:=Rd.lit) (hb:=(fun _=>by exact ⟨by decide,by decide,by intro h; cases h⟩)) (k:=GL_env (E':=[⟨217,[],.pointer (some ⟨t,1,none⟩)⟩,⟨216,[],.int .u8 1⟩,⟨215,[],.slice (some ⟨t,0,none⟩) 2 2⟩,⟨214,[],.pointer (some ⟨b,4,none⟩)⟩,⟨213,[],pt b⟩,⟨212,[],pt b⟩,⟨0,[],pt b⟩,⟨1,[],.string (mB #[13,10])⟩,⟨2,[],.string (mB #[10])⟩,⟨3,[],.int .i64 4⟩,⟨4,[],pt b⟩,⟨14,[],.int .u8 1⟩]) kr G5)
 refine F6 6 kr (fun w h=>(h.pkT 1 [1,1])) (C1 1 1 rfl rfl (G5 kr rfl)) (G0 (fuel:=5) [(7,0)] (fun w h=>(h.pkT 1 [1,1])) (k:=F6 (E':=[⟨220,[],.string ((mB #[13,10]).extract 1 (Int.toNat ((mB #[13,10]).size:Int)))⟩,⟨219,[],.string (mB #[13,10])⟩,⟨218,[],pt b3⟩,⟨217,[],.pointer (some ⟨t,1,none⟩)⟩,⟨216,[],.int .u8 1⟩,⟨215,[],.slice (some ⟨t,0,none⟩) 2 2⟩,⟨214,[],.pointer (some ⟨b,4,none⟩)⟩,⟨213,[],pt b⟩,⟨212,[],pt b⟩,⟨0,[],pt b⟩,⟨1,[],.string (mB #[13,10])⟩,⟨2,[],.string (mB #[10])⟩,⟨3,[],.int .i64 4⟩,⟨4,[],pt b⟩,⟨14,[],.int .u8 1⟩]) 8 kr (fun w h=>(h.pkT 1 [1,1])) ?_ ?_))
 exact M6 (mB #[13,10]) 1 ((mB #[13,10]).size:Int) (by intro _; exact ⟨by decide,by decide,by decide⟩) G5
 refine GH_env (E':=[⟨220,[],.string (mB #[10])⟩,⟨219,[],.string (mB #[13,10])⟩,⟨218,[],pt b3⟩,⟨217,[],.pointer (some ⟨t,1,none⟩)⟩,⟨216,[],.int .u8 1⟩,⟨215,[],.slice (some ⟨t,0,none⟩) 2 2⟩,⟨214,[],.pointer (some ⟨b,4,none⟩)⟩,⟨213,[],pt b⟩,⟨212,[],pt b⟩,⟨0,[],pt b⟩,⟨1,[],.string (mB #[13,10])⟩,⟨2,[],.string (mB #[10])⟩,⟨3,[],.int .i64 4⟩,⟨4,[],pt b⟩,⟨14,[],.int .u8 1⟩]) (by rfl) (G0 (fuel:=1) [(9,0),(10,0),(11,0)] (fun w h=>(h.pkT 1 [1,1])) (k:=C6 12 (k:=D9 Tryz.func141 (addK_ b3 (pt b) _ _) ?_)))
 rintro _ _ ⟨n4,rfl⟩
 refine A9 kr (fun w h=>(h.pk 2 [2,2])) (D8 (E':=[]) [] (k:=F8 0 [2,2,0,0] (B7 [] [] (k:=?_))))
 exact ⟨_,_,rfl⟩
theorem addR1_ (b t:Nat) (n1 n2:Nat) (W0:World) (H:List Grp):Tri Tryz.prog 141 #[pt b,.string (mB #[13]),.string (mB #[10]),.int .i64 2,pt b] W0 ([(b,.cells (J5 [.string eB,.int .i64 0,.string eB,.pointer none,.slice (some ⟨t,0,none⟩) 2 2,.int .i64 2] (Y0 256)) 202 (0,0))]::[(t,.cells #[.pointer none,pt n1] 197 (0,0))]::[(n1,.cells #[.string eB,.int .i64 0,.string (mB #[10]),pt n2,.slice none 0 0] 200 (0,0))]::H) (fun _ H'=>H'=[(b,.cells (J5 [.string eB,.int .i64 0,.string eB,.pointer none,.slice (some ⟨t,0,none⟩) 2 2,.int .i64 2] (Y0 256)) 202 (0,0))]::[(t,.cells #[.pointer none,pt n1] 197 (0,0))]::[(n1,.cells #[.string (mB #[10]),.int .i64 2,.string (mB #[10]),pt n2,.slice none 0 0] 200 (0,0))]::H):=by
 refine D5 241 Tryz.func141 ?_
 refine A1 (A1 (G_p [0,0] [0,1,2,3,4,16] (k:=A0 (B1 (b:=(mB #[13]).toList==eB.toList) kr (fun hc1=>?_) (fun hc1=>?_)))))
 exact Bool.noConfusion ((hc1).symm.trans (show _=false from by kernel_rfl))
 refine A7 (A0 (A1 (A2 (A3 (j:=3) [0,0,0] (k:=C2 (ch:=[]) (b:=b) (off:=2) (v:=.string eB) (hA:=At.grp 0 0 rfl rfl) (hv:=N0 rfl) (k:=A5 [0] [0,1,2,3,4,34] (k:=A0 (B1 (b:=!(eB.toList==eB.toList)) kr (fun hc2=>?_) (fun hc2=>?_)))))))))
 exact Bool.noConfusion ((hc2).symm.trans (show _=false from by kernel_rfl))
 refine A1 (A2 (A3 (j:=3) [0,0,0] (k:=C2 (ch:=[]) (b:=b) (off:=4) (v:=.slice (some ⟨t,0,none⟩) 2 2) (hA:=At.grp 0 0 rfl rfl) (hv:=N0 rfl) (k:=A5 [0] [0,1,2,3,4,189] (k:=A0 (B9 kr (A1 (H4 (k:=?_)))))))))
 refine A3 (j:=2) [0,0] (k:=G3 (mB #[13]) 0 (fun _=>by decide) (A3 (j:=5) [0,0] (k:=E9 (ch:=[]) (b:=b) (off:=6) (len:=256) (sz:=1) (e:=5) (kd:=.u8) (j:=13) (hb:=(fun _=>⟨by decide,by decide⟩)) (k:=C2 (ch:=[]) (b:=b) (off:=19) (v:=.int .u8 1) (hA:=At.grp 0 0 rfl rfl) (hv:=grpC_at (k:=13) rfl rfl (by decide) rfl) (k:=A5 [0] [0,1,2,3,4,14] (k:=A0 (A1 (A1 ?_))))))))
 refine A2 (A3 (j:=3) [0,0,0] (k:=C2 (ch:=[]) (b:=b) (off:=4) (v:=.slice (some ⟨t,0,none⟩) 2 2) (hA:=At.grp 0 0 rfl rfl) (hv:=N0 rfl) (k:=A3 (j:=5) [0] (k:=J9 (ch:=[]) (a:=(some ⟨t,0,none⟩)) (len:=2) (cap:=2) (kd:=.u8) (j:=1) (e:=197) (sz:=1) (S:=(inG [(t,.cells #[.pointer none,pt n1] 197 (0,0))])) (cs:=[.pointer none,pt n1]) (hrd:=Rd.lit) (hb:=(fun _=>by exact ⟨by omega,by omega,by first | exact List.cons_ne_nil _ _ | (intro h; simp [strs] at h; simp [h] at *; omega)⟩)) (k:=GL_env (E':=[⟨202,[],.pointer (some ⟨t,1,none⟩)⟩,⟨201,[],.int .u8 1⟩,⟨200,[],.slice (some ⟨t,0,none⟩) 2 2⟩,⟨199,[],.pointer (some ⟨b,4,none⟩)⟩,⟨198,[],pt b⟩,⟨197,[],pt b⟩,⟨0,[],pt b⟩,⟨1,[],.string (mB #[13])⟩,⟨2,[],.string (mB #[10])⟩,⟨3,[],.int .i64 2⟩,⟨4,[],pt b⟩,⟨14,[],.int .u8 1⟩]) kr (C1 1 1 rfl rfl (A5 [0] [0,1,2,3,4,14,204] (k:=A0 ?_))))))))
 refine C5 kr (A7 (A0 (H3 ([(b,.cells (J5 [.string eB,.int .i64 0,.string eB,.pointer none,.slice (some ⟨t,0,none⟩) 2 2,.int .i64 2] (Y0 256)) 202 (0,0))]::[(t,.cells #[.pointer none,pt n1] 197 (0,0))]::H) kr (G0 (fuel:=12) [(0,0)] (fun w h=>(h.pk 1 [0,0])) (k:=J3 (ad:=⟨b,0,none⟩) 1 (hL:=(fun w h=>(h.pk 1 [0,0]))) (k:=G0 (fuel:=10) [(2,0)] (fun w h=>(h.pk 1 [0,0])) (k:=F6 3 kr (fun w h=>(h.pk 1 [0,0])) (C2 (i:=3) (ch:=[]) (b:=b) (off:=4) (v:=.slice (some ⟨t,0,none⟩) 2 2) rfl rfl kr kr kr kr kr (At.grp 0 0 rfl rfl) (N0 rfl) (G5 kr rfl)) (G0 (fuel:=8) [(4,0)] (fun w h=>(h.pk 1 [0,0])) (k:=?_)))))))))
 refine F6 (E':=[⟨217,[],.pointer (some ⟨t,1,none⟩)⟩,⟨216,[],.int .u8 1⟩,⟨215,[],.slice (some ⟨t,0,none⟩) 2 2⟩,⟨214,[],.pointer (some ⟨b,4,none⟩)⟩,⟨213,[],pt b⟩,⟨212,[],pt b⟩,⟨0,[],pt b⟩,⟨1,[],.string (mB #[13])⟩,⟨2,[],.string (mB #[10])⟩,⟨3,[],.int .i64 2⟩,⟨4,[],pt b⟩,⟨14,[],.int .u8 1⟩,⟨204,[],.bool false⟩]) 5 kr (fun w h=>(h.pk 1 [0,0])) ?_ ?_
 exact J9 (ch:=[]) (a:=(some ⟨t,0,none⟩)) (len:=2) (cap:=2) (kd:=.u8) (j:=1) (e:=197) (sz:=1) (S:=(inG [(t,.cells #[.pointer none,pt n1] 197 (0,0))])) (cs:=[.pointer none,pt n1]) (hrd:=Rd.lit) (hb:=(fun _=>by exact ⟨by decide,by decide,by intro h; cases h⟩)) (k:=GL_env (E':=[⟨217,[],.pointer (some ⟨t,1,none⟩)⟩,⟨216,[],.int .u8 1⟩,⟨215,[],.slice (some ⟨t,0,none⟩) 2 2⟩,⟨214,[],.pointer (some ⟨b,4,none⟩)⟩,⟨213,[],pt b⟩,⟨212,[],pt b⟩,⟨0,[],pt b⟩,⟨1,[],.string (mB #[13])⟩,⟨2,[],.string (mB #[10])⟩,⟨3,[],.int .i64 2⟩,⟨4,[],pt b⟩,⟨14,[],.int .u8 1⟩,⟨204,[],.bool false⟩]) kr G5)
 refine F6 6 kr (fun w h=>(h.pk 1 [0,0])) (C1 1 1 rfl rfl (G5 kr rfl)) (G0 (fuel:=5) [(7,0)] (fun w h=>(h.pk 1 [0,0])) (k:=F6 (E':=[⟨220,[],.string ((mB #[13]).extract 1 (Int.toNat ((mB #[13]).size:Int)))⟩,⟨219,[],.string (mB #[13])⟩,⟨218,[],pt n1⟩,⟨217,[],.pointer (some ⟨t,1,none⟩)⟩,⟨216,[],.int .u8 1⟩,⟨215,[],.slice (some ⟨t,0,none⟩) 2 2⟩,⟨214,[],.pointer (some ⟨b,4,none⟩)⟩,⟨213,[],pt b⟩,⟨212,[],pt b⟩,⟨0,[],pt b⟩,⟨1,[],.string (mB #[13])⟩,⟨2,[],.string (mB #[10])⟩,⟨3,[],.int .i64 2⟩,⟨4,[],pt b⟩,⟨14,[],.int .u8 1⟩,⟨204,[],.bool false⟩]) 8 kr (fun w h=>(h.pk 1 [0,0])) ?_ ?_))
 exact M6 (mB #[13]) 1 ((mB #[13]).size:Int) (by intro _; exact ⟨by decide,by decide,by decide⟩) G5
 refine GH_env (E':=[⟨220,[],.string eB⟩,⟨219,[],.string (mB #[13])⟩,⟨218,[],pt n1⟩,⟨217,[],.pointer (some ⟨t,1,none⟩)⟩,⟨216,[],.int .u8 1⟩,⟨215,[],.slice (some ⟨t,0,none⟩) 2 2⟩,⟨214,[],.pointer (some ⟨b,4,none⟩)⟩,⟨213,[],pt b⟩,⟨212,[],pt b⟩,⟨0,[],pt b⟩,⟨1,[],.string (mB #[13])⟩,⟨2,[],.string (mB #[10])⟩,⟨3,[],.int .i64 2⟩,⟨4,[],pt b⟩,⟨14,[],.int .u8 1⟩,⟨204,[],.bool false⟩]) (by rfl) (G0 (fuel:=1) [(9,0),(10,0),(11,0)] (fun w h=>(h.pk 1 [0,0])) (k:=C6 12 (k:=M1 0 [2] (D9 Tryz.func141 (addE_ n1 eB (.string (mB #[10])) (pt n2) (mB #[10]) 2 (pt b) _ _) ?_))))
 rintro _ _ rfl
 refine A9 kr (fun w h=>(h.pk 1 [1,1])) (D8 (E':=[]) [] (k:=F8 0 [1,1,0] (B7 [] [] (k:=?_))))
 exact rfl
def crT:List Value:=[.string (mB #[13,10]),.string (mB #[10]),.string (mB #[13]),.string (mB #[10])]
theorem mkGen_ (a:Option Addr) (cap:Nat) (g:Grp) (hr:Rd (inG g) a crT) (W0:World) (H:List Grp):Tri Tryz.prog 129 #[.slice a 4 cap] W0 (g::H) (fun v H'=>∃ b t n1 n2,v=pt b∧H'=[(b,.cells (J5 [.string eB,.int .i64 0,.string eB,.pointer none,.slice (some ⟨t,0,none⟩) 2 2,.int .i64 2] (Y0 256)) 202 (0,0))]::[(t,.cells #[.pointer none,pt n1] 197 (0,0))]::[(n1,.cells #[.string (mB #[10]),.int .i64 2,.string (mB #[10]),pt n2,.slice none 0 0] 200 (0,0))]::[(n2,.cells #[.string (mB #[10]),.int .i64 4,.string eB,.pointer none,.slice none 0 0] 200 (0,0))]::g::H):=by
 refine D5 117 Tryz.func129 ?_
 refine A1 (C3 (E':=[⟨0,[],.slice a 4 cap⟩]) [0] [0] (k:=A0 (A1 (A2 (GL_alloc (i:=0) (ch:=[]) (z:=.agg (J5 [.string eB,.int .i64 0,.string eB,.pointer none,.slice none 0 0,.int .i64 0] (fun _=>0))) rfl rfl kr kr kr kr (fun b1=>?_))))))
 refine A5 [0] [0,3] (k:=A0 (A1 (A1 (G_p [0] [0,3,4] (k:=A0 (B3 (O0 3 (F5 ?_))))))))
 refine A1 (A1 (G_p [0,0,0,0] [0,3,4,17] (k:=A0 (B9 kr (A7 (A0 (A1 (B3 ?_))))))))
 refine A1 (A2 (A3 (j:=2) [0,0] (k:=E4 4 0 1 hr (by exact ⟨by decide,by decide,by intro h; cases h⟩) (H7 (0 * 1) (.string (mB #[13,10])) hr (E0 1 rfl) (fun _=>rfl) (A5 [0] [0,3,4,5] (k:=A0 (A1 (G_p [0] [0,3,4,5,6] (k:=?_)))))))))
 refine A0 (B3 (O0 3 (F5 (A1 (A1 (G_p [0,0,0,0] [0,3,4,5,6,27] (k:=A0 (B9 kr ?_))))))))
 refine A7 (A0 (A1 (B3 (H3 (g::H) kr (G0 (fuel:=5) [(0,0),(1,0),(2,0)] (fun w h=>(h.pk 1 [1])) (k:=F6 3 kr (fun w h=>(h.pk 1 [1])) (G3 (mB #[13,10]) 0 (fun _=>by decide) (G5 kr rfl)) (J3 (ad:=⟨b1,0,none⟩) 4 (hL:=(fun w h=>(h.pk 1 [1]))) (k:=G0 (fuel:=2) [(5,0)] (fun w h=>(h.pk 1 [1])) (k:=?_)))))))))
 refine F6 6 (hL:=(fun w h=>(h.pk 1 [1]))) (hy:=E9 (i:=6) (ch:=[]) (b:=b1) (off:=6) (len:=256) (sz:=1) (e:=5) (kd:=.u8) (j:=13) (hb:=(fun _=>⟨by decide,by decide⟩)) (k:=G5 kr rfl)) (k:=C6 7 (k:=P1 (ch:=[]) (b:=b1) (off:=19) (v:=.int .u8 1) (c:=(J5 [.string eB,.int .i64 0,.string eB,.pointer none,.slice none 0 0,.int .i64 0] (fun _=>0))) (c':=(J5 [.string eB,.int .i64 0,.string eB,.pointer none,.slice none 0 0,.int .i64 0] (updF (fun _=>0) 13 1))) (j:=0) (m:=0) (H':=([(b1,.cells (J5 [.string eB,.int .i64 0,.string eB,.pointer none,.slice none 0 0,.int .i64 0] (updF (fun _=>0) 13 1)) 202 (0,0))]::g::H)) (hoff:=(by rw [W8 rfl]; show 19+1≤262; omega)) (hfz:=(fun _ _=>thaw0)) (hc':=grpC_set rfl rfl (by decide) (fun _ _=>rfl)) (k:=A9 kr (fun w h=>(h.pk 1 [1])) (D8 (E':=[⟨0,[],.slice a 4 cap⟩,⟨3,[],pt b1⟩,⟨4,[],.int .i64 0⟩,⟨5,[],.string (mB #[13,10])⟩,⟨6,[],.int .i64 0⟩]) [0,3,4,5,6] (k:=B8 (A0 (G_p [0,0,0] [0,3,4,5,6] (k:=Z4 ?_))))))))
 refine F5 (A1 (A1 (G_p [0,0,0,0] [0,3,4,5,6,27] (k:=A0 (B9 kr (A7 (A0 (A1 ?_))))))))
 refine B3 (H3 (g::H) kr (G0 (fuel:=5) [(0,0),(1,0),(2,0)] (fun w h=>(h.pk 1 [1])) (k:=F6 3 kr (fun w h=>(h.pk 1 [1])) (G3 (mB #[13,10]) 1 (fun _=>by decide) (G5 kr rfl)) (J3 (ad:=⟨b1,0,none⟩) 4 (hL:=(fun w h=>(h.pk 1 [1]))) (k:=G0 (fuel:=2) [(5,0)] (fun w h=>(h.pk 1 [1])) (k:=F6 6 (hL:=(fun w h=>(h.pk 1 [1]))) (hy:=E9 (i:=6) (ch:=[]) (b:=b1) (off:=6) (len:=256) (sz:=1) (e:=5) (kd:=.u8) (j:=10) (hb:=(fun _=>⟨by decide,by decide⟩)) (k:=G5 kr rfl)) (k:=C6 7 (k:=P1 (ch:=[]) (b:=b1) (off:=16) (v:=.int .u8 1) (c:=(J5 [.string eB,.int .i64 0,.string eB,.pointer none,.slice none 0 0,.int .i64 0] (updF (fun _=>0) 13 1))) (c':=(J5 [.string eB,.int .i64 0,.string eB,.pointer none,.slice none 0 0,.int .i64 0] (updF (updF (fun _=>0) 13 1) 10 1))) (j:=0) (m:=0) (H':=([(b1,.cells (J5 [.string eB,.int .i64 0,.string eB,.pointer none,.slice none 0 0,.int .i64 0] (updF (updF (fun _=>0) 13 1) 10 1)) 202 (0,0))]::g::H)) (hoff:=(by rw [W8 rfl]; show 16+1≤262; omega)) (hfz:=(fun _ _=>thaw0)) (hc':=grpC_set rfl rfl (by decide) (fun _ _=>rfl)) (k:=?_)))))))))
 refine A9 kr (fun w h=>(h.pk 1 [1])) (D8 (E':=[⟨0,[],.slice a 4 cap⟩,⟨3,[],pt b1⟩,⟨4,[],.int .i64 0⟩,⟨5,[],.string (mB #[13,10])⟩,⟨6,[],.int .i64 1⟩]) [0,3,4,5,6] (k:=B8 (A0 (G_p [0,0,0] [0,3,4,5,6] (k:=Z4 (F5 (A1 (A1 ?_))))))))
 refine G_p [0,0,0,0] [0,3,4,5,6,27] (k:=A0 (C5 kr (E7 (A6 (A6 (B6 (B8 (A0 ?_))))))))
 refine G_p [0,0,0] [0,3,4] (k:=Z4 (F5 (A1 (A1 (G_p [0,0,0,0] [0,3,4,17] (k:=A0 (B9 kr (A7 ?_))))))))
 refine A0 (A1 (B3 (A1 (A2 (A3 (j:=2) [0,0] (k:=E4 4 2 1 hr (by exact ⟨by decide,by decide,by intro h; cases h⟩) (H7 (2 * 1) (.string (mB #[13])) hr (E0 1 rfl) (fun _=>rfl) (A5 [0] [0,3,4,5] (k:=?_)))))))))
 refine A0 (A1 (G_p [0] [0,3,4,5,6] (k:=A0 (B3 (O0 2 (F5 (A1 (A1 ?_))))))))
 refine G_p [0,0,0,0] [0,3,4,5,6,27] (k:=A0 (B9 kr (A7 (A0 (A1 (B3 (H3 (g::H) kr (G0 (fuel:=5) [(0,0),(1,0),(2,0)] (fun w h=>(h.pk 1 [1])) (k:=?_)))))))))
 refine F6 3 kr (fun w h=>(h.pk 1 [1])) (G3 (mB #[13]) 0 (fun _=>by decide) (G5 kr rfl)) (J3 (ad:=⟨b1,0,none⟩) 4 (hL:=(fun w h=>(h.pk 1 [1]))) (k:=G0 (fuel:=2) [(5,0)] (fun w h=>(h.pk 1 [1])) (k:=F6 6 (hL:=(fun w h=>(h.pk 1 [1]))) (hy:=E9 (i:=6) (ch:=[]) (b:=b1) (off:=6) (len:=256) (sz:=1) (e:=5) (kd:=.u8) (j:=13) (hb:=(fun _=>⟨by decide,by decide⟩)) (k:=G5 kr rfl)) (k:=C6 7 (k:=P1 (ch:=[]) (b:=b1) (off:=19) (v:=.int .u8 1) (c:=(J5 [.string eB,.int .i64 0,.string eB,.pointer none,.slice none 0 0,.int .i64 0] (updF (updF (fun _=>0) 13 1) 10 1))) (c':=(J5 [.string eB,.int .i64 0,.string eB,.pointer none,.slice none 0 0,.int .i64 0] (updF (updF (updF (fun _=>0) 13 1) 10 1) 13 1))) (j:=0) (m:=0) (H':=([(b1,.cells (J5 [.string eB,.int .i64 0,.string eB,.pointer none,.slice none 0 0,.int .i64 0] (updF (updF (updF (fun _=>0) 13 1) 10 1) 13 1)) 202 (0,0))]::g::H)) (hoff:=(by rw [W8 rfl]; show 19+1≤262; omega)) (hfz:=(fun _ _=>thaw0)) (hc':=grpC_set rfl rfl (by decide) (fun _ _=>rfl)) (k:=A9 kr (fun w h=>(h.pk 1 [1])) (D8 (E':=[⟨0,[],.slice a 4 cap⟩,⟨3,[],pt b1⟩,⟨4,[],.int .i64 2⟩,⟨5,[],.string (mB #[13])⟩,⟨6,[],.int .i64 0⟩]) [0,3,4,5,6] (k:=B8 ?_))))))))
 refine A0 (G_p [0,0,0] [0,3,4,5,6] (k:=Z4 (F5 (A1 (A1 (G_p [0,0,0,0] [0,3,4,5,6,27] (k:=A0 (C5 kr ?_))))))))
 refine E7 (A6 (A6 (B6 (B8 (A0 (G_p [0,0,0] [0,3,4] (k:=Z4 (F5 ?_))))))))
 refine A1 (A1 (G_p [0,0,0,0] [0,3,4,17] (k:=A0 (C5 kr (E7 (A6 (A6 (B6 ?_))))))))
 refine A0 (A1 (A1 (A2 (A3 (j:=3) [0,0,0] (k:=Q1 (ch:=[]) (b:=b1) (off:=6) (l:=mapL (updF (updF (updF (fun _=>0) 13 1) 10 1) 13 1)) (hA:=At.grp 0 0 rfl rfl) (hv':=grpC_map rfl) (k:=A5 [0] [0,3,40,41] (k:=A0 (B3 ?_))))))))
 refine G_env (E':=[⟨0,[],.slice a 4 cap⟩,⟨3,[],pt b1⟩,⟨40,[],(.agg (mapL (updF (updF (updF (fun _=>0) 13 1) 10 1) 13 1)).toArray)⟩,⟨41,[],.int .i64 0⟩]) kr ?_
 have hm1:(updF (updF (updF (fun _=>0) 13 1) 10 1) 13 1)=m1:=by funext j; unfold updF m1; (repeat' split) <;> first | rfl | omega
 refine G_env (E':=[⟨0,[],.slice a 4 cap⟩,⟨3,[],pt b1⟩,⟨40,[],(.agg (mapL m1).toArray)⟩,⟨41,[],.int .i64 0⟩]) (by rw [← hm1]) (R2 (H':=([(b1,.cells (J5 [.string eB,.int .i64 0,.string eB,.pointer none,.slice none 0 0,.int .i64 0] m1) 202 (0,0))]::g::H)) (fun w h=>by rw [← hm1]; exact h) (I5 (EI:=(fun ξ:Nat=>[⟨0,[],.slice a 4 cap⟩,⟨3,[],pt b1⟩,⟨40,[],(.agg (mapL m1).toArray)⟩,⟨41,[],.int .i64 ((ξ:Nat):Int)⟩])) (HI:=(fun ξ:Nat=>([(b1,.cells (J5 [.string eB,.int .i64 0,.string eB,.pointer none,.slice none 0 0,.int .i64 (cnt ξ)] m1) 202 (0,0))]::g::H))) (Φ:=(fun ξ:Nat=>(ξ≤256))) (μ:=(fun ξ:Nat=>256 - ξ)) (s0:=(0)) [0,3,40,41] kr kr (by omega) ?_))
 rintro k hk
 have hmb:=m1_bd k
 have hcb:=cnt_bd k
 refine A1 (G_p [0] [0,3,40,41,42] (k:=A0 (A1 (B1 (b:=decide (((k:Nat):Int)<256)) kr (fun hc2=>?_) (fun hc2=>?_)))))
 have hkl:=hc2; simp only [decide_eq_true_eq] at hkl
 refine A7 (A0 (A1 (B3 (A1 (A2 (GL_indexV (i:=0) (ch:=[]) (vs:=(mapL m1).toArray) (kd:=.i64) (j:=((k:Nat):Int)) (len:=256) (e:=5) (v:=.int .u8 (m1 k)) rfl rfl kr kr kr kr kr kr kr kr (fun _=>⟨by omega,by omega,by rw [Int.toNat_natCast]; exact mapA_at (by omega) rfl⟩) (A5 [0] [0,3,8,40,41] (k:=A0 ?_))))))))
 refine A2 (A3 (j:=3) [0,0,0] (k:=C2 (ch:=[]) (b:=b1) (off:=5) (v:=.int .i64 (cnt k)) (hA:=At.grp 0 0 rfl rfl) (hv:=N0 rfl) (k:=A3 (j:=6) [0,0] (k:=D1 49 (m1 k) (by omega) (by omega) kr (A3 (j:=7) [0] (k:=D1 50 ((cnt k)+(m1 k)) (by omega) (by omega) kr (A3 (j:=9) [0,0] (k:=P1 (ch:=[]) (b:=b1) (off:=5) (v:=.int .i64 ((cnt k)+(m1 k))) (c:=(J5 [.string eB,.int .i64 0,.string eB,.pointer none,.slice none 0 0,.int .i64 (cnt k)] m1)) (c':=(J5 [.string eB,.int .i64 0,.string eB,.pointer none,.slice none 0 0,.int .i64 ((cnt k)+(m1 k))] m1)) (j:=0) (m:=0) (H':=([(b1,.cells (J5 [.string eB,.int .i64 0,.string eB,.pointer none,.slice none 0 0,.int .i64 ((cnt k)+(m1 k))] m1) 202 (0,0))]::g::H)) (hoff:=(by rw [W8 rfl]; show 5+1≤262; omega)) (hfz:=(fun _ _=>thaw0)) (hc':=grpC_sethd (Nat.le_of_ble_eq_true rfl) rfl) (k:=?_)))))))))
 refine A5 [] [0,3,40,41] (k:=B8 (A0 (A2 (A3 (j:=1) [0] (k:=D1 53 (((k:Nat):Int)+1) (by omega) (by omega) kr (A5 [0] [0,3,40,41] (k:=?_)))))))
 have hcs:(cnt k)+(m1 k)=cnt (k+1):=(cnt_succ k).symm
 refine R5 (H':=([(b1,.cells (J5 [.string eB,.int .i64 0,.string eB,.pointer none,.slice none 0 0,.int .i64 (cnt (k+1))] m1) 202 (0,0))]::g::H)) (by rw [hcs]) (D2 (s':=(k+1)) [0,3,40,41] kr rfl (by omega) (by omega))
 have hkl:=hc2; simp only [decide_eq_false_iff_not] at hkl
 refine E7 (A6 (A6 (B6 (A0 (A1 (G_p [0] [0,3,9] (k:=A0 (A1 ?_))))))))
 refine A1 (A2 (A3 (j:=3) [0,0,0] (k:=Q1 (ch:=[]) (b:=b1) (off:=6) (l:=mapL m1) (hA:=At.grp 0 0 rfl rfl) (hv':=grpC_map rfl) (k:=A5 [0] [0,3,9,57,58] (k:=A0 (B3 (R2 (H':=([(b1,.cells (J5 [.string eB,.int .i64 0,.string eB,.pointer none,.slice none 0 0,.int .i64 2] (Y0 0)) 202 (0,0))]::g::H)) (fun w h=>by rw [show Y0 0=m1 from funext finK_0]; rw [show k=256 by omega] at h; exact h) (I5 (EI:=(fun ξ:Nat=>[⟨0,[],.slice a 4 cap⟩,⟨3,[],pt b1⟩,⟨9,[],.int .u8 (cnt ξ)⟩,⟨57,[],(.agg (mapL m1).toArray)⟩,⟨58,[],.int .i64 ((ξ:Nat):Int)⟩])) (HI:=(fun ξ:Nat=>([(b1,.cells (J5 [.string eB,.int .i64 0,.string eB,.pointer none,.slice none 0 0,.int .i64 2] (Y0 ξ)) 202 (0,0))]::g::H))) (Φ:=(fun ξ:Nat=>(ξ≤256))) (μ:=(fun ξ:Nat=>256 - ξ)) (s0:=(0)) [0,3,9,57,58] kr kr (by omega) ?_))))))))
 rintro q hq
 have hmq:=m1_bd q
 have hcq:=cnt_bd q
 refine A1 (G_p [0] [0,3,9,57,58,59] (k:=A0 (A1 (B1 (b:=decide (((q:Nat):Int)<256)) kr (fun hc6=>?_) (fun hc6=>?_)))))
 have hql:=hc6; simp only [decide_eq_true_eq] at hql
 refine A7 (A0 (A1 (B3 (A1 (A2 (A3 (j:=1) [0] (k:=GL_indexV (i:=1) (ch:=[]) (vs:=(mapL m1).toArray) (kd:=.i64) (j:=((q:Nat):Int)) (len:=256) (e:=5) (v:=.int .u8 (m1 q)) rfl rfl kr kr kr kr kr kr kr kr (fun _=>⟨by omega,by omega,by rw [Int.toNat_natCast]; exact mapA_at (by omega) rfl⟩) (A5 [0,0] [0,3,9,10,11,57,58] (k:=?_)))))))))
 refine A0 (A1 (G_p [0,0] [0,3,9,10,57,58,63] (k:=A0 (B1 (b:=(m1 q)==0) kr (fun hc7=>?_) (fun hc7=>?_)))))
 have hz:m1 q=0:=by simpa using hc7
 refine H3 (g::H) kr (G0 (fuel:=8) [(0,0),(1,0),(2,0)] (fun w h=>(h.pk 1 [1])) (k:=J3 (ad:=⟨b1,0,none⟩) 3 (hL:=(fun w h=>(h.pk 1 [1]))) (k:=G0 (fuel:=6) [(4,0)] (fun w h=>(h.pk 1 [1])) (k:=J3 (ad:=⟨b1,0,none⟩) 7 (hL:=(fun w h=>(h.pk 1 [1]))) (k:=G0 (fuel:=4) [(8,0)] (fun w h=>(h.pk 1 [1])) (k:=C6 5 (k:=C2 (ch:=[]) (b:=b1) (off:=5) (v:=.int .i64 2) (hA:=At.grp 0 0 rfl rfl) (hv:=N0 rfl) (k:=A9 kr (fun w h=>(h.pk 1 [1])) ?_))))))))
 refine G0 (fuel:=2) [(6,0)] (fun w h=>(h.pk 1 [1])) (k:=F6 9 (hL:=(fun w h=>(h.pk 1 [1]))) (hy:=E9 (i:=9) (ch:=[]) (b:=b1) (off:=6) (len:=256) (sz:=1) (e:=5) (kd:=.i64) (j:=((q:Nat):Int)) (hb:=(fun _=>by exact ⟨by omega,by omega⟩)) (k:=G5 kr rfl)) (k:=C6 10 (k:=P1 (ch:=[]) (b:=b1) (off:=6+Int.toNat ((q:Nat):Int) * 1) (v:=.int .u8 2) (c:=(J5 [.string eB,.int .i64 0,.string eB,.pointer none,.slice none 0 0,.int .i64 2] (Y0 q))) (c':=(J5 [.string eB,.int .i64 0,.string eB,.pointer none,.slice none 0 0,.int .i64 2] (Y0 (q+1)))) (j:=0) (m:=0) (H':=([(b1,.cells (J5 [.string eB,.int .i64 0,.string eB,.pointer none,.slice none 0 0,.int .i64 2] (Y0 (q+1))) 202 (0,0))]::g::H)) (hoff:=(by rw [W8 rfl]; show 6+Int.toNat ((q:Nat):Int) * 1+1≤262; omega)) (hfz:=(fun _ _=>thaw0)) (hc':=grpC_set (k:=q) rfl (by rw [Int.toNat_natCast]; omega) (by omega) (fun j _=>finK_succ (m2_no hz).symm j)) (k:=A9 kr (fun w h=>(h.pk 1 [1])) (D8 (E':=[⟨0,[],.slice a 4 cap⟩,⟨3,[],pt b1⟩,⟨9,[],.int .u8 (cnt q)⟩,⟨57,[],(.agg (mapL m1).toArray)⟩,⟨58,[],.int .i64 ((q:Nat):Int)⟩]) [0,3,9,57,58] (k:=B8 (A0 (A2 ?_))))))))
 refine A3 (j:=1) [0] (k:=D1 82 (((q:Nat):Int)+1) (by omega) (by omega) kr (A5 [0] [0,3,9,57,58] (k:=?_)))
 have hc9:(cnt q)=cnt (q+1):=by rw [cnt_succ,hz]; omega
 refine L7 (E':=[⟨0,[],.slice a 4 cap⟩,⟨3,[],pt b1⟩,⟨9,[],.int .u8 (cnt q)⟩,⟨57,[],(.agg (mapL m1).toArray)⟩,⟨58,[],.int .i64 (((q:Nat):Int)+1)⟩]) kr (L7 (E':=[⟨0,[],.slice a 4 cap⟩,⟨3,[],pt b1⟩,⟨9,[],.int .u8 (cnt (q+1))⟩,⟨57,[],(.agg (mapL m1).toArray)⟩,⟨58,[],.int .i64 (((q:Nat):Int)+1)⟩]) (by rw [hc9]) (D2 (s':=(q+1)) [0,3,9,57,58] kr kr (by omega) (by omega)))
 have hz:m1 q≠0:=by simpa using hc7
 refine A1 (A2 (A3 (j:=5) [0,0,0,0,0] (k:=E9 (ch:=[]) (b:=b1) (off:=6) (len:=256) (sz:=1) (e:=5) (kd:=.i64) (j:=((q:Nat):Int)) (hb:=(fun _=>by exact ⟨by omega,by omega⟩)) (k:=P1 (ch:=[]) (b:=b1) (off:=6+Int.toNat ((q:Nat):Int) * 1) (v:=.int .u8 (cnt q)) (c:=(J5 [.string eB,.int .i64 0,.string eB,.pointer none,.slice none 0 0,.int .i64 2] (Y0 q))) (c':=(J5 [.string eB,.int .i64 0,.string eB,.pointer none,.slice none 0 0,.int .i64 2] (Y0 (q+1)))) (j:=0) (m:=0) (H':=([(b1,.cells (J5 [.string eB,.int .i64 0,.string eB,.pointer none,.slice none 0 0,.int .i64 2] (Y0 (q+1))) 202 (0,0))]::g::H)) (hoff:=(by rw [W8 rfl]; show 6+Int.toNat ((q:Nat):Int) * 1+1≤262; omega)) (hfz:=(fun _ _=>thaw0)) (hc':=grpC_set (k:=q) rfl (by rw [Int.toNat_natCast]; omega) (by omega) (fun j _=>finK_succ (cnt_m2 hz) j)) (k:=A5 [] [0,3,9,57,58] (k:=A0 (G_p [0,0,0] [0,3,9,57,58] (k:=B8 ?_))))))))
 refine A0 (A2 (A3 (j:=1) [0] (k:=D1 82 (((q:Nat):Int)+1) (by omega) (by omega) kr (A5 [0] [0,3,9,57,58] (k:=?_)))))
 have hc9:IntKind.wrap .u8 ((cnt q)+1)=cnt (q+1):=by rw [cnt_succ,show m1 q=1 by omega]; rw [show IntKind.wrap .u8 (cnt q+1)=(cnt q+1) % 256 from by first | rfl | simp [IntKind.wrap,IntKind.bits,IntKind.signed]]; omega
 refine L7 (E':=[⟨0,[],.slice a 4 cap⟩,⟨3,[],pt b1⟩,⟨9,[],.int .u8 (IntKind.wrap .u8 ((cnt q)+1))⟩,⟨57,[],(.agg (mapL m1).toArray)⟩,⟨58,[],.int .i64 (((q:Nat):Int)+1)⟩]) kr (L7 (E':=[⟨0,[],.slice a 4 cap⟩,⟨3,[],pt b1⟩,⟨9,[],.int .u8 (cnt (q+1))⟩,⟨57,[],(.agg (mapL m1).toArray)⟩,⟨58,[],.int .i64 (((q:Nat):Int)+1)⟩]) (by rw [hc9]) (D2 (s':=(q+1)) [0,3,9,57,58] kr kr (by omega) (by omega)))
 have hql:=hc6; simp only [decide_eq_false_iff_not] at hql
 have hq6:q=256:=by omega
 refine E7 (A6 (A6 (B6 (A0 (A1 (A2 (A3 (j:=4) [0,0,0,0] (k:=C2 (ch:=[]) (b:=b1) (off:=5) (v:=.int .i64 2) (hA:=At.grp 0 0 rfl rfl) (hv:=N0 rfl) (k:=?_)))))))))
 refine GL_makeS (ch:=[]) (t:=198) (e:=197) (inf:=Tryz.t197) (l:=2) (c:=[.pointer none,.pointer none]) (z:=.pointer none) (hz:=kr) (hb:=of_decide_eq_true kr) (hl:=of_decide_eq_true kr) (hm:=of_decide_eq_true kr) (hc:=kr) (k:=(fun b10=>A3 (j:=9) [0,0,0] (k:=P1 (ch:=[]) (b:=b1) (off:=4) (v:=.slice (some ⟨b10,0,none⟩) 2 2) (c:=(J5 [.string eB,.int .i64 0,.string eB,.pointer none,.slice none 0 0,.int .i64 2] (Y0 q))) (c':=(J5 [.string eB,.int .i64 0,.string eB,.pointer none,.slice (some ⟨b10,0,none⟩) 2 2,.int .i64 2] (Y0 q))) (j:=1) (m:=0) (H':=([(b10,.cells #[.pointer none,.pointer none] 197 (0,0))]::[(b1,.cells (J5 [.string eB,.int .i64 0,.string eB,.pointer none,.slice (some ⟨b10,0,none⟩) 2 2,.int .i64 2] (Y0 q)) 202 (0,0))]::g::H)) (hoff:=(by rw [W8 rfl]; show 4+1≤262; omega)) (hfz:=(fun _ _=>thaw0)) (hc':=grpC_sethd (Nat.le_of_ble_eq_true rfl) rfl) (k:=A5 [] [0,3] (k:=A0 (A1 (A1 (G_p [0] [0,3,12] (k:=A0 ?_)))))))))
 refine B3 (R2 (H':=([(b10,.cells #[.pointer none,.pointer none] 197 (0,0))]::[(b1,.cells (J5 [.string eB,.int .i64 0,.string eB,.pointer none,.slice (some ⟨b10,0,none⟩) 2 2,.int .i64 2] (Y0 256)) 202 (0,0))]::g::H)) (fun w h=>by rw [hq6] at h; exact h) (O0 3 (F5 (A1 (A1 (G_p [0,0,0,0] [0,3,12,95] (k:=A0 (B9 kr ?_))))))))
 refine A7 (A0 (A1 (B3 (H3 (g::H) kr (G0 (fuel:=17) [(0,0)] (fun w h=>(h.pk 2 [2])) (k:=J3 (ad:=⟨b1,0,none⟩) 1 (hL:=(fun w h=>(h.pk 2 [2]))) (k:=G0 (fuel:=13) [(2,0),(3,0),(4,0)] (fun w h=>(h.pk 2 [2])) (k:=F6 5 kr (fun w h=>(h.pk 2 [2])) (E4 4 0 1 hr (by exact ⟨by decide,by decide,by intro h; cases h⟩) (G5 kr rfl)) ?_))))))))
 refine F6 6 kr (fun w h=>(h.pk 2 [2])) (H7 (0 * 1) (.string (mB #[13,10])) hr (E0 0 rfl) (fun _=>rfl) (G5 kr rfl)) (G0 (fuel:=8) [(7,0),(8,0),(9,0)] (fun w h=>(h.pk 2 [2])) (k:=F6 10 kr (fun w h=>(h.pk 2 [2])) (E4 4 1 1 hr (by exact ⟨by decide,by decide,by intro h; cases h⟩) (G5 kr rfl)) (F6 11 kr (fun w h=>(h.pk 2 [2])) (H7 (1 * 1) (.string (mB #[10])) hr (E0 0 rfl) (fun _=>rfl) (G5 kr rfl)) (G0 (fuel:=5) [(12,0)] (fun w h=>(h.pk 2 [2])) (k:=Q0 (v:=.int .i64 4) 13 (hL:=(fun w h=>(h.pk 2 [2]))) (k:=G0 (fuel:=1) [(14,0),(15,0),(16,0)] (fun w h=>(h.pk 2 [2])) (k:=C6 17 (k:=M1 0 [1] ?_))))))))
 refine D9 Tryz.func141 (addR2_ b1 b10 _ _) ?_
 rintro _ _ ⟨n11,n12,rfl⟩
 refine A9 kr (fun w h=>(h.pk 4 [4])) (D8 (E':=[⟨0,[],.slice a 4 cap⟩,⟨3,[],pt b1⟩,⟨12,[],.int .i64 0⟩]) [0,3,12] (k:=B8 (A0 (G_p [0,0,0] [0,3,12] (k:=Z4 (F5 (A1 (A1 ?_))))))))
 refine G_p [0,0,0,0] [0,3,12,95] (k:=A0 (B9 kr (A7 (A0 (A1 (B3 (H3 (g::H) kr (G0 (fuel:=17) [(0,0)] (fun w h=>(h.pk 4 [4])) (k:=?_)))))))))
 refine J3 (ad:=⟨b1,0,none⟩) 1 (hL:=(fun w h=>(h.pk 4 [4]))) (k:=G0 (fuel:=13) [(2,0),(3,0),(4,0)] (fun w h=>(h.pk 4 [4])) (k:=F6 5 kr (fun w h=>(h.pk 4 [4])) (E4 4 2 1 hr (by exact ⟨by decide,by decide,by intro h; cases h⟩) (G5 kr rfl)) (F6 6 kr (fun w h=>(h.pk 4 [4])) (H7 (2 * 1) (.string (mB #[13])) hr (E0 0 rfl) (fun _=>rfl) (G5 kr rfl)) (G0 (fuel:=8) [(7,0),(8,0),(9,0)] (fun w h=>(h.pk 4 [4])) (k:=F6 10 kr (fun w h=>(h.pk 4 [4])) (E4 4 3 1 hr (by exact ⟨by decide,by decide,by intro h; cases h⟩) (G5 kr rfl)) (F6 11 kr (fun w h=>(h.pk 4 [4])) (H7 (3 * 1) (.string (mB #[10])) hr (E0 0 rfl) (fun _=>rfl) (G5 kr rfl)) (G0 (fuel:=5) [(12,0)] (fun w h=>(h.pk 4 [4])) (k:=Q0 (v:=.int .i64 4) 13 (hL:=(fun w h=>(h.pk 4 [4]))) (k:=?_)))))))))
 refine G0 (fuel:=1) [(14,0),(15,0),(16,0)] (fun w h=>(h.pk 4 [4])) (k:=C6 17 (k:=D9 Tryz.func141 (addR1_ b1 b10 n11 n12 _ _) ?_))
 rintro _ _ rfl
 refine A9 kr (fun w h=>(h.pk 4 [4])) (D8 (E':=[⟨0,[],.slice a 4 cap⟩,⟨3,[],pt b1⟩,⟨12,[],.int .i64 2⟩]) [0,3,12] (k:=B8 (A0 (G_p [0,0,0] [0,3,12] (k:=Z4 (F5 (A1 (A1 ?_))))))))
 refine G_p [0,0,0,0] [0,3,12,95] (k:=A0 (C5 kr (E7 (A6 (A6 (B6 (A0 (A1 ?_))))))))
 refine C3 (E':=[⟨2,[],pt b1⟩]) [0,0] [2] (k:=A0 (B4 (B7 [.tmp 2] [pt b1] (k:=?_))))
 exact ⟨_,_,_,_,rfl,rfl⟩
end Go.Proofs.YtcgmnagcgkhogaaGreatDoor
namespace Go.Xml
open Go.Esc Go.Json
theorem drop_getD {l:List UInt8} {i:Nat} (h:i<l.length):l.drop i=l.getD i 0::l.drop (i+1):=by
 rw [List.drop_eq_getElem_cons h]; congr 1; simp [List.getD,h]
theorem take_dropS {l:List UInt8} {last i:Nat} (hl:last≤i) (h:i<l.length):(l.drop last).take (i+1 - last)=(l.drop last).take (i - last)++[l.getD i 0]:=by
 have h1:i - last<(l.drop last).length:=by rw [List.length_drop]; omega
 rw [show i+1 - last=i - last+1 by omega,List.take_succ_eq_append_getElem h1]
 congr 2
 rw [List.getElem_drop]; simp [List.getD,h,show last+(i - last)=i by omega]
theorem lin_step {l out:List UInt8} {last i:Nat} (h:B5 l=out++((l.drop last).take (i - last)++B5 (l.drop i))) (hl:last≤i) (hi:i<l.length) (hb:l.getD i 0≠13):B5 l=out++((l.drop last).take (i+1 - last)++B5 (l.drop (i+1))):=by
 rw [h,drop_getD hi,lines_no hb,take_dropS hl hi,List.append_assoc]; rfl
theorem lin_one {l out:List UInt8} {last i:Nat} (h:B5 l=out++((l.drop last).take (i - last)++B5 (l.drop i))) (hi:i<l.length) (hb:l.getD i 0=13) (hn:¬ (i+1<l.length∧l.getD (i+1) 0=10)):B5 l=((out++(l.drop last).take (i - last))++[10])++((l.drop (i+1)).take (i+1 - (i+1))++B5 (l.drop (i+1))):=by
 have h1:B5 (l.drop i)=10::B5 (l.drop (i+1)):=by
  rw [drop_getD hi,hb,lines_13]
  intro u hu
  have h2:i+1<l.length:=by
   have:=congrArg List.length hu
   rw [List.length_drop,List.length_cons] at this; omega
  refine hn ⟨h2,?_⟩
  rw [drop_getD h2] at hu
  injection hu
 rw [h,h1,Nat.sub_self,List.take_zero,List.nil_append]
 simp only [List.append_assoc]; rfl
theorem lin_two {l out:List UInt8} {last i:Nat} (h:B5 l=out++((l.drop last).take (i - last)++B5 (l.drop i))) (hi:i+1<l.length) (hb:l.getD i 0=13) (hn:l.getD (i+1) 0=10):B5 l=((out++(l.drop last).take (i - last))++[10])++((l.drop (i+2)).take (i+2 - (i+2))++B5 (l.drop (i+2))):=by
 have h1:B5 (l.drop i)=10::B5 (l.drop (i+2)):=by
  rw [drop_getD (by omega),hb,drop_getD hi,hn,lines_cr]
 rw [h,h1,Nat.sub_self,List.take_zero,List.nil_append]
 simp only [List.append_assoc]; rfl
theorem lin_at {l out:List UInt8} {last i:Nat} (h:B5 l=out++((l.drop last).take (i - last)++B5 (l.drop i))) (hl:last≤i) (hi:i=l.length):B5 l=out++((l.drop last).take (i+1 - last)++B5 (l.drop (i+1))):=by
 have e1:(l.drop last).take (i+1 - last)=l.drop last:=List.take_of_length_le (by rw [List.length_drop]; omega)
 have e2:(l.drop last).take (i - last)=l.drop last:=List.take_of_length_le (by rw [List.length_drop]; omega)
 rw [h,e1,e2,List.drop_eq_nil_of_le (show l.length≤i by omega),List.drop_eq_nil_of_le (show l.length≤i+1 by omega)]
theorem lin_fin {l out:List UInt8} {last i:Nat} (h:B5 l=out++((l.drop last).take (i - last)++B5 (l.drop i))) (hi:l.length≤i):B5 l=out++l.drop last:=by
 have e1:(l.drop last).take (i - last)=l.drop last:=List.take_of_length_le (by rw [List.length_drop]; omega)
 rw [h,e1,List.drop_eq_nil_of_le hi,show B5 []=[] from rfl,List.append_nil]
end Go.Xml
namespace Go.Proofs.YtcgmnagcgkhogaaGreatDoor
open Go.Sw Go.Sha Go.Esc Go.Json Go.Xml
theorem byte3 (b:UInt8):b=13∨b=10∨(b≠13∧m2 b.toNat=2):=by
 by_cases h1:b=13
 exact .inl h1
 by_cases h2:b=10
 exact .inr (.inl h2)
 refine .inr (.inr ⟨h1,?_⟩)
 have e1:b.toNat≠10:=fun h=>h2 (UInt8.toNat_inj.1 h)
 have e2:b.toNat≠13:=fun h=>h1 (UInt8.toNat_inj.1 h)
 unfold m2
 rw [if_neg e1,if_neg e2]
theorem ba_of {a:ByteArray} {l:List UInt8} (h:a.data.toList=l):a=bk l:=ByteArray.ext (Array.ext' h)
theorem ext_mid (l:List UInt8) (a b:Nat):((bk l).extract a b).data.toList=(l.drop a).take (b - a):=ext_list (bk l) a b
theorem app_list (a b:ByteArray):(a++b).data.toList=a.data.toList++b.data.toList:=by rw [ByteArray.data_append,Array.toList_append]
theorem lookup_ (b t n1 n2:Nat) (l:List UInt8) (hl:l.length≤1000000000000) (h13:l=[]∨l.getD 0 0=13) (W0:World) (H:List Grp):Tri Tryz.prog 208 #[pt b,.string (bk l),.bool false] W0 ([(b,.cells (J5 [.string eB,.int .i64 0,.string eB,.pointer none,.slice (some ⟨t,0,none⟩) 2 2,.int .i64 2] (Y0 256)) 202 (0,0))]::[(t,.cells #[.pointer none,pt n1] 197 (0,0))]::[(n1,.cells #[.string (mB #[10]),.int .i64 2,.string (mB #[10]),pt n2,.slice none 0 0] 200 (0,0))]::[(n2,.cells #[.string (mB #[10]),.int .i64 4,.string eB,.pointer none,.slice none 0 0] 200 (0,0))]::H) (fun v H'=>((l=[]∧v=.tuple #[.string eB,.int .i64 0,.bool false])∨(l≠[]∧¬ (1<l.length∧l.getD 1 0=10)∧v=.tuple #[.string (mB #[10]),.int .i64 1,.bool true])∨(1<l.length∧l.getD 1 0=10∧v=.tuple #[.string (mB #[10]),.int .i64 2,.bool true]))∧H'=([(b,.cells (J5 [.string eB,.int .i64 0,.string eB,.pointer none,.slice (some ⟨t,0,none⟩) 2 2,.int .i64 2] (Y0 256)) 202 (0,0))]::[(t,.cells #[.pointer none,pt n1] 197 (0,0))]::[(n1,.cells #[.string (mB #[10]),.int .i64 2,.string (mB #[10]),pt n2,.slice none 0 0] 200 (0,0))]::[(n2,.cells #[.string (mB #[10]),.int .i64 4,.string eB,.pointer none,.slice none 0 0] 200 (0,0))]::H)):=by
 have hbz:=D0 l
 refine D5 107 Tryz.func208 ?_
 refine A1 (G_p [0,0,0] [0,1,2,6,7,8] (k:=A0 (A1 (G_p [0] [0,1,2,6,7,8,9] (k:=A0 (A1 (G_p [0,0,0,0] [0,1,2,6,7,8,9,10] (k:=A0 ?_))))))))
 refine A1 (G_p [0] [0,1,2,6,7,8,9,10,11] (k:=A0 (A1 (B3 (O0 4 (F5 (A1 (A1 ?_))))))))
 refine G_p [0,0] [0,1,2,6,7,8,9,10,11,17] (k:=A0 (B9 kr (A7 (A0 (B3 (A1 (A1 (A2 ?_))))))))
 refine A3 (j:=3) [0,0,0] (k:=C2 (ch:=[]) (b:=b) (off:=1) (v:=.int .i64 0) (hA:=At.grp 0 0 rfl rfl) (hv:=N0 rfl) (k:=A5 [0,0,0,1,1,1,1,1,1,1,1,1,3] [0,1,2,6,7,8,9,10,11,34] (k:=A0 (C5 kr (A7 (A0 (A1 (A1 ?_))))))))
 refine G_p [0,0] [0,1,2,6,7,8,9,10,11,45] (k:=A0 (B1 (b:=(bk l).toList==eB.toList) kr (fun hc1=>?_) (fun hc1=>?_)))
 have h1:l=[]:=(eqB _ _).1 hc1
 refine E7 (A6 (R1 rfl (A6 (B6 (A0 (B4 (B7 [.tmp 6,.tmp 7,.tmp 8] [.string eB,.int .i64 0,.bool false] (k:=?_))))))))
 exact ⟨.inl ⟨h1,rfl⟩,rfl⟩
 have h1:l≠[]:=(eqBf _ _).1 hc1
 replace h13:=h13.resolve_left h1
 have hlp:=List.length_pos_iff.2 h1
 refine A7 (A0 (A1 (A2 (A3 (j:=3) [0,0,0] (k:=C2 (ch:=[]) (b:=b) (off:=4) (v:=.slice (some ⟨t,0,none⟩) 2 2) (hA:=At.grp 0 0 rfl rfl) (hv:=N0 rfl) (k:=A5 [0] [0,1,2,6,7,8,9,10,11,50] (k:=A0 (B9 kr ?_))))))))
 refine A1 (H4 (k:=A3 (j:=2) [0,0] (k:=G3 (bk l) 0 (by intro _; exact ⟨by omega,by omega⟩) ?_)))
 have hb2:=E5 (bk l) 0
 refine A3 (j:=5) [0,0] (k:=E9 (ch:=[]) (b:=b) (off:=6) (len:=256) (sz:=1) (e:=5) (kd:=.u8) (j:=B2 (bk l) 0) (hb:=(fun _=>by rw [byteJ0,h13]; exact ⟨by decide,by decide⟩)) (k:=C2 (ch:=[]) (b:=b) (off:=6+Int.toNat (B2 (bk l) 0) * 1) (v:=.int .u8 1) (hA:=At.grp 0 0 rfl rfl) (hv:=grpC_at (k:=13) rfl (by rw [byteJ0,h13]; rfl) (by decide) rfl) (k:=A5 [0] [0,1,2,6,7,8,9,10,11,12] (k:=A0 (A1 (A1 (A2 (A3 (j:=5) [0,0,0,0,0] (k:=?_)))))))))
 refine C2 (ch:=[]) (b:=b) (off:=5) (v:=.int .i64 2) (hA:=At.grp 0 0 rfl rfl) (hv:=N0 rfl) (k:=A5 [0] [0,1,2,6,7,8,9,10,11,12,64] (k:=A0 (C5 kr (A7 (A0 (A1 (A2 (A3 (j:=3) [0,0,0] (k:=?_)))))))))
 refine C2 (ch:=[]) (b:=b) (off:=4) (v:=.slice (some ⟨t,0,none⟩) 2 2) (hA:=At.grp 0 0 rfl rfl) (hv:=N0 rfl) (k:=A3 (j:=5) [0] (k:=J9 (ch:=[]) (a:=(some ⟨t,0,none⟩)) (len:=2) (cap:=2) (kd:=.u8) (j:=1) (e:=197) (sz:=1) (S:=(inG [(t,.cells #[.pointer none,pt n1] 197 (0,0))])) (cs:=[.pointer none,pt n1]) (hrd:=Rd.lit) (hb:=(fun _=>by exact ⟨by decide,by decide,by intro h; cases h⟩)) (k:=GL_env (E':=[⟨70,[],.pointer (some ⟨t,1,none⟩)⟩,⟨69,[],.int .u8 1⟩,⟨68,[],.slice (some ⟨t,0,none⟩) 2 2⟩,⟨67,[],.pointer (some ⟨b,4,none⟩)⟩,⟨66,[],pt b⟩,⟨65,[],pt b⟩,⟨0,[],pt b⟩,⟨1,[],.string (bk l)⟩,⟨2,[],.bool false⟩,⟨6,[],.string eB⟩,⟨7,[],.int .i64 0⟩,⟨8,[],.bool false⟩,⟨9,[],.int .i64 0⟩,⟨10,[],pt b⟩,⟨11,[],.int .i64 0⟩,⟨12,[],.int .u8 1⟩,⟨64,[],.bool false⟩]) kr (C1 1 1 rfl rfl (A5 [0] [0,1,2,6,7,8,9,10,11] (k:=A0 (A1 (A2 ?_))))))))
 refine A3 (j:=1) [0] (k:=M6 (bk l) 1 ((bk l).size:Int) (by intro _; exact ⟨by omega,by omega,by omega⟩) (E3 73 (x:=.string ((bk l).extract 1 (bk l).size)) (y:=.string (bk (l.drop 1))) (by rw [ext_bk]) (A5 [0] [0,1,2,6,7,8,9,10,11] (k:=A0 (G_p [0,0,0] [0,1,2,6,7,8,9,10,11] (k:=B8 (Z4 (F5 ?_))))))))
 refine A1 (A1 (G_p [0,0] [0,1,2,6,7,8,9,10,11,17] (k:=A0 (B9 kr (A7 (A0 (B3 (A1 ?_))))))))
 refine A1 (A2 (A3 (j:=3) [0,0,0] (k:=C1 2 1 rfl rfl (C0 (E':=[⟨0,[],pt b⟩,⟨1,[],.string (bk (l.drop 1))⟩,⟨2,[],.bool false⟩,⟨6,[],.string eB⟩,⟨7,[],.int .i64 0⟩,⟨8,[],.bool false⟩,⟨9,[],.int .i64 0⟩,⟨10,[],pt n1⟩,⟨11,[],.int .i64 1⟩,⟨34,[],.bool true⟩]) [0,0,0,0,0,1,1,1,1,1,3,0,2] [0,1,2,6,7,8,9,10,11,34] (k:=A0 (B9 kr (A1 (A2 ?_))))))))
 refine A3 (j:=3) [0,0,0] (k:=C1 2 1 rfl rfl (A5 [0] [0,1,2,9,10,11] (k:=A0 (A1 (A2 (A3 (j:=3) [0,0,0] (k:=C1 2 0 rfl rfl (A5 [0] [0,1,2,6,9,10,11] (k:=?_)))))))))
 refine A0 (A1 (G_p [0,0] [0,1,2,6,7,9,10,11] (k:=A0 (G_p [0] [0,1,2,6,7,8,9,10,11] (k:=A0 (A1 (A1 (G_p [0,0] [0,1,2,6,7,8,9,10,11,45] (k:=?_)))))))))
 refine A0 (B1 (b:=(bk (l.drop 1)).toList==eB.toList) kr (fun hc3=>?_) (fun hc3=>?_))
 have h2:l.drop 1=[]:=(eqB _ _).1 hc3
 have h2l:l.length≤1:=by have:=congrArg List.length h2; rw [List.length_drop,List.length_nil] at this; omega
 refine E7 (A6 (R1 rfl (A6 (B6 (A0 (B4 (B7 [.tmp 6,.tmp 7,.tmp 8] [.string (mB #[10]),.int .i64 1,.bool true] (k:=?_))))))))
 exact ⟨.inr (.inl ⟨h1,fun h=>absurd h.1 (by omega),rfl⟩),rfl⟩
 have h2:l.drop 1≠[]:=(eqBf _ _).1 hc3
 have h2l:1<l.length:=by have:=List.length_pos_iff.2 h2; rw [List.length_drop] at this; omega
 refine A7 (A0 (A1 (A2 (A3 (j:=3) [0,0,0] (k:=C1 2 4 rfl rfl (A5 [0] [0,1,2,6,7,8,9,10,11,50] (k:=A0 (C5 kr ?_))))))))
 refine A1 (A2 (A3 (j:=3) [0,0,0] (k:=C1 2 2 rfl rfl (A3 (j:=5) [0] (k:=E3 80 (x:=.bool (!((mB #[10]).toList==eB.toList))) (y:=.bool true) (by rw [show (!((mB #[10]).toList==eB.toList))=true from by kernel_rfl]) (A3 (j:=10) [0,0,0,0,0] (k:=C2 (ch:=[(81,true)]) (b:=n1) (off:=2) (v:=.string (mB #[10])) (hA:=At.grp 2 0 rfl rfl) (k:=P9 [(81,true)] Tryz.func64 (fun hc=>jhas_ (bk (l.drop 1)) (mB #[10]) _ _) ?_))))))))
 refine A5 [2] [0,1,2,6,7,8,9,10,11,88] (k:=A0 (B1 (b:=H9 (bk (l.drop 1)) (mB #[10])) kr (fun hc4=>?_) (fun hc4=>?_)))
 have h10:(l.drop 1).take 1=[10]:=(J7 _ _).1 hc4
 have hg:l.getD 1 0=10:=by rw [Go.Xml.drop_getD h2l] at h10; injection h10
 refine A1 (A2 (A3 (j:=4) [0,0,0,0] (k:=C1 2 2 rfl rfl (A5 [0,0,0] [0,1,2,6,7,8,9,10,11] (k:=A0 (A1 (A2 (A3 (j:=4) [0,0,0,0] (k:=?_)))))))))
 refine C1 2 2 rfl rfl (A3 (j:=6) [0] (k:=M6 (bk (l.drop 1)) 1 ((bk (l.drop 1)).size:Int) (by intro _; rw [D0,List.length_drop]; exact ⟨by omega,by omega,by omega⟩) (E3 102 (x:=.string ((bk (l.drop 1)).extract 1 (bk (l.drop 1)).size)) (y:=.string (bk ((l.drop 1).drop 1))) (by rw [ext_bk]) (A5 [0] [0,1,2,6,7,8,9,10,11] (k:=A0 (A2 (A3 (j:=3) [0,0,0] (k:=C1 2 3 rfl rfl ?_))))))))
 refine A5 [0] [0,1,2,6,7,8,9,10,11] (k:=B8 (Z4 (F5 (A1 (A1 (G_p [0,0] [0,1,2,6,7,8,9,10,11,17] (k:=A0 (B9 kr ?_))))))))
 refine A7 (A0 (B3 (A1 (A1 (A2 (A3 (j:=3) [0,0,0] (k:=C1 3 1 rfl rfl (A5 [0,0,0,0,0,1,1,1,1,1,3,0,2] [0,1,2,6,7,8,9,10,11,34] (k:=?_)))))))))
 refine A0 (B9 kr (A1 (A2 (A3 (j:=3) [0,0,0] (k:=C1 3 1 rfl rfl (A5 [0] [0,1,2,9,10,11] (k:=A0 (A1 ?_))))))))
 refine A2 (A3 (j:=3) [0,0,0] (k:=C1 3 0 rfl rfl (A5 [0] [0,1,2,6,9,10,11] (k:=A0 (A1 (C3 (E':=[⟨0,[],pt b⟩,⟨1,[],.string (bk ((l.drop 1).drop 1))⟩,⟨2,[],.bool false⟩,⟨6,[],.string (mB #[10])⟩,⟨7,[],.int .i64 2⟩,⟨9,[],.int .i64 4⟩,⟨10,[],pt n2⟩,⟨11,[],.int .i64 2⟩]) [0,0] [0,1,2,6,7,9,10,11] (k:=A0 (G_p [0] [0,1,2,6,7,8,9,10,11] (k:=?_)))))))))
 refine A0 (A1 (A1 (G_p [0,0] [0,1,2,6,7,8,9,10,11,45] (k:=A0 (B1 (b:=(bk ((l.drop 1).drop 1)).toList==eB.toList) kr (fun hc5=>?_) (fun hc5=>?_))))))
 refine E7 (A6 (R1 rfl (A6 (B6 (A0 (B4 (B7 [.tmp 6,.tmp 7,.tmp 8] [.string (mB #[10]),.int .i64 2,.bool true] (k:=?_))))))))
 exact ⟨.inr (.inr ⟨h2l,hg,rfl⟩),rfl⟩
 refine A7 (A0 (A1 (A2 (A3 (j:=3) [0,0,0] (k:=C1 3 4 rfl rfl (A5 [0] [0,1,2,6,7,8,9,10,11,50] (k:=A0 (C5 kr ?_))))))))
 refine A1 (A2 (A3 (j:=3) [0,0,0] (k:=C1 3 2 rfl rfl (A3 (j:=5) [0] (k:=E3 80 (x:=.bool (!(eB.toList==eB.toList))) (y:=.bool false) (by rw [show (!(eB.toList==eB.toList))=false from by kernel_rfl]) (A5 [0,1,1,1,1,1,1,3] [0,1,2,6,7,8,9,10,11,88] (k:=A0 (C5 kr ?_))))))))
 refine E7 (R1 rfl (A6 (B6 (A0 (B4 (B7 [.tmp 6,.tmp 7,.tmp 8] [.string (mB #[10]),.int .i64 2,.bool true] (k:=?_)))))))
 exact ⟨.inr (.inr ⟨h2l,hg,rfl⟩),rfl⟩
 have h10:¬ (l.drop 1).take 1=[10]:=(J4 _ _).1 hc4
 have hg:¬ l.getD 1 0=10:=fun hn=>h10 (by rw [Go.Xml.drop_getD h2l,hn]; rfl)
 refine E7 (R1 rfl (A6 (B6 (A0 (B4 (B7 [.tmp 6,.tmp 7,.tmp 8] [.string (mB #[10]),.int .i64 1,.bool true] (k:=?_)))))))
 exact ⟨.inr (.inl ⟨h1,fun h=>hg h.2,rfl⟩),rfl⟩
theorem aswStr_ (wb:Nat) (v:Value) (g:Grp) (t s:ByteArray) (hv:BOwn v g t) (hs:t.size+s.size≤140737488355328) (W0:World) (H:List Grp):Tri Tryz.prog 218 #[pt wb,.string s] W0 ([(wb,.cells #[v] 255 (0,0))]::g::H) (fun r H'=>r=.tuple #[.int .i64 (s.size:Int),.nilIface]∧∃ v' g',BOwn v' g' (t++s)∧H'=[(wb,.cells #[v'] 255 (0,0))]::g'::H):=by
 refine D5 15 Tryz.func218 ?_
 refine A1 (C3 (E':=[⟨0,[],pt wb⟩,⟨1,[],.string s⟩]) [0,0] [0,1] (k:=A0 (A1 (A2 (A3 (j:=3) [0,0,0] (k:=C1 0 0 rfl rfl (A3 (j:=5) [0] (k:=X4 (i:=5) (ch:=[]) (t:=255) (tx:=9) (e:=5) (inf:=Tryz.t5) (s:=v) (x:=.string s) (n:=t.size) (m:=s.size) (j:=1) (cs:=(u8s t.data.toList)) (news:=(u8s s.data.toList)) (g:=g) (S:=(inB W0)) rfl rfl rfl rfl kr kr kr rfl rfl (.inr ⟨kr,rfl⟩) (fun _=>⟨rfl,kr⟩) (fun ⟨_,_,_,h⟩=>by cases h) kr kr kr rfl hv (SrcOf.str s) at_inB (by rw [show (u8s s.data.toList).length=_ from List.length_map _,Array.length_toList]; exact (Nat.mul_one _).symm) u8_one (by omega) (by show (t.size+s.size) * 1≤140737488355328; omega) (fun v1 g2 hO3=>?_)))))))))
 obtain ⟨a4,cap5,rfl,hcap6,hrd7⟩:=hO3.shape
 refine A3 (j:=7) [0] (k:=C9 0 0 (.slice a4 (t.size+s.size) cap5) rfl (C0 (E':=[⟨1,[],.string s⟩]) [] [1] (k:=A0 (A1 (G_p [0,0,0,0] [4,5] (k:=A0 (B4 (B7 [.tmp 4,.tmp 5] [.int .i64 (s.size:Int),.nilIface] (k:=?_)))))))))
 exact ⟨rfl,_,_,own_text hO3 rfl (by simp [ByteArray.size_append]),rfl⟩
theorem getSW_ (wb:Nat) (W0:World) (H:List Grp):Tri Tryz.prog 207 #[.iface 256 (pt wb)] W0 H (fun v H'=>v=.iface 256 (pt wb)∧H'=H):=by
 refine D5 16 Tryz.func207 ?_
 refine A1 (C3 (E':=[⟨0,[],.iface 256 (pt wb)⟩]) [0] [0] (k:=A0 (A1 (A2 (A3 (j:=1) [0] (k:=GL_assertI (i:=1) (ch:=[]) (xt:=258) (t:=260) (b:=true) (u:=.iface 256 (pt wb)) (v:=.tuple #[.iface 256 (pt wb),.bool true]) rfl rfl kr (fun w=>by kernel_rfl) kr kr kr (A5 [0,0,0,0,0] [0,3,4] (k:=A0 ?_))))))))
 refine A1 (A1 (G_p [0,0] [0,3,11] (k:=A0 (C5 kr (A7 (A0 (A1 (C3 (E':=[⟨2,[],.iface 256 (pt wb)⟩]) [0,0] [2] (k:=?_)))))))))
 refine A0 (B4 (B7 [.tmp 2] [.iface 256 (pt wb)] (k:=?_)))
 exact ⟨rfl,rfl⟩
theorem genWrite_ (b t n1 n2 wb:Nat) (v:Value) (g:Grp) (l:List UInt8) (hl:l.length≤1000000000000) (hv:BOwn v g (bk [])) (W0:World) (H:List Grp):Tri Tryz.prog 206 #[pt b,.iface 256 (pt wb),.string (bk l)] W0 ([(b,.cells (J5 [.string eB,.int .i64 0,.string eB,.pointer none,.slice (some ⟨t,0,none⟩) 2 2,.int .i64 2] (Y0 256)) 202 (0,0))]::[(t,.cells #[.pointer none,pt n1] 197 (0,0))]::[(n1,.cells #[.string (mB #[10]),.int .i64 2,.string (mB #[10]),pt n2,.slice none 0 0] 200 (0,0))]::[(n2,.cells #[.string (mB #[10]),.int .i64 4,.string eB,.pointer none,.slice none 0 0] 200 (0,0))]::[(wb,.cells #[v] 255 (0,0))]::g::H) (fun r H'=>∃ n v' g',r=.tuple #[.int .i64 n,.nilIface]∧BOwn v' g' (bk (B5 l))∧H'=([(b,.cells (J5 [.string eB,.int .i64 0,.string eB,.pointer none,.slice (some ⟨t,0,none⟩) 2 2,.int .i64 2] (Y0 256)) 202 (0,0))]::[(t,.cells #[.pointer none,pt n1] 197 (0,0))]::[(n1,.cells #[.string (mB #[10]),.int .i64 2,.string (mB #[10]),pt n2,.slice none 0 0] 200 (0,0))]::[(n2,.cells #[.string (mB #[10]),.int .i64 4,.string eB,.pointer none,.slice none 0 0] 200 (0,0))]::[(wb,.cells #[v'] 255 (0,0))]::g'::H)):=by
 have hbz:=D0 l
 refine D5 131 Tryz.func206 ?_
 refine A1 (G_p [0,0] [0,1,2,6,7] (k:=A0 (A1 (A2 (A3 (j:=1) [0] (k:=H5 Tryz.func207 (getSW_ wb _ _) (A5 [0] [0,2,6,7,8] (k:=A0 ?_))))))))
 refine A1 (G_p [0,0] [0,2,6,7,8,9] (k:=A0 (A1 (G_p [0] [0,2,6,7,8,9,11] (k:=A0 (A1 (A1 (G_p [0] [0,2,6,7,8,9,11,12] (k:=?_)))))))))
 refine A0 (B3 (I5 (EI:=(fun ξ:Nat × Nat × ByteArray × Value × Grp=>[⟨0,[],pt b⟩,⟨2,[],.string (bk l)⟩,⟨6,[],.int .i64 (ξ.2.2.1.size:Int)⟩,⟨7,[],.nilIface⟩,⟨8,[],.iface 256 (pt wb)⟩,⟨9,[],.int .i64 ((ξ.2.1:Nat):Int)⟩,⟨11,[],.bool false⟩,⟨12,[],.int .i64 ((ξ.1:Nat):Int)⟩])) (HI:=(fun ξ:Nat × Nat × ByteArray × Value × Grp=>([(b,.cells (J5 [.string eB,.int .i64 0,.string eB,.pointer none,.slice (some ⟨t,0,none⟩) 2 2,.int .i64 2] (Y0 256)) 202 (0,0))]::[(t,.cells #[.pointer none,pt n1] 197 (0,0))]::[(n1,.cells #[.string (mB #[10]),.int .i64 2,.string (mB #[10]),pt n2,.slice none 0 0] 200 (0,0))]::[(n2,.cells #[.string (mB #[10]),.int .i64 4,.string eB,.pointer none,.slice none 0 0] 200 (0,0))]::[(wb,.cells #[ξ.2.2.2.1] 255 (0,0))]::ξ.2.2.2.2::H))) (Φ:=(fun ξ:Nat × Nat × ByteArray × Value × Grp=>(ξ.1≤l.length+1)∧(ξ.2.1≤ξ.1)∧(ξ.2.1≤l.length)∧(ξ.2.2.1.size≤ξ.2.1)∧(BOwn ξ.2.2.2.1 ξ.2.2.2.2 ξ.2.2.1)∧(B5 l=ξ.2.2.1.data.toList++((l.drop ξ.2.1).take (ξ.1 - ξ.2.1)++B5 (l.drop ξ.1))))) (μ:=(fun ξ:Nat × Nat × ByteArray × Value × Grp=>l.length+2 - ξ.1)) (s0:=(0,0,bk [],v,g)) [0,2,6,7,8,9,11,12] kr rfl ⟨(Nat.zero_le _),(Nat.le_refl _),(Nat.zero_le _),(Nat.le_refl _),hv,rfl⟩ ?_))
 rintro ⟨i,last,q,v,g⟩ ⟨hil,hla,hll,hq,hv,hT⟩
 dsimp only at hil hla hll hq hv hT
 refine A1 (A1 (G_p [0,0,0,0] [0,2,6,7,8,9,11,12,22] (k:=A0 (B1 (b:=decide (((i:Nat):Int)≤((bk l).size:Int))) kr (fun hc1=>?_) (fun hc1=>?_)))))
 simp only [decide_eq_true_eq] at hc1
 have hle:=hc1
 refine A7 (A0 (B3 (A1 (A1 (A2 (A3 (j:=9) [0,0,0,0,0,0,0,0,0] (k:=C2 (ch:=[(27,true)]) (b:=b) (off:=1) (v:=.int .i64 0) (hA:=At.grp 0 0 rfl rfl) (hv:=N0 rfl) (k:=A5 [0,6] [0,2,6,7,8,9,11,12,34] (k:=?_)))))))))
 refine A0 (B1 (b:=(((i:Nat):Int) != ((bk l).size:Int))&&true) kr (fun hc2=>?_) (fun hc2=>?_))
 simp only [bne_iff_ne,ne_eq,Bool.and_true] at hc2
 have hlt:=hc2
 refine A1 ?_
 rcases byte3 (l.getD i 0) with hb | hb | hb
 refine H4 (k:=A3 (j:=3) [0,0,0] (k:=G3 (bk l) ((i:Nat):Int) (by intro _; exact ⟨by omega,by omega⟩) ?_))
 have hb3:=E5 (bk l) ((i:Nat):Int)
 refine A3 (j:=6) [0,0] (k:=E9 (ch:=[]) (b:=b) (off:=6) (len:=256) (sz:=1) (e:=5) (kd:=.u8) (j:=B2 (bk l) ((i:Nat):Int)) (hb:=(fun _=>by exact ⟨by omega,by omega⟩)) (k:=C2 (ch:=[]) (b:=b) (off:=6+Int.toNat (B2 (bk l) ((i:Nat):Int)) * 1) (v:=.int .u8 (m2 (l.getD i 0).toNat)) (hA:=At.grp 0 0 rfl rfl) (hv:=grpC_at (k:=(l.getD i 0).toNat) rfl (by rw [byteJ]; omega) (l.getD i 0).toNat_lt (finK_end (l.getD i 0).toNat_lt)) (k:=E3 42 (x:=.int .u8 (m2 (l.getD i 0).toNat)) (y:=.int .u8 1) (by rw [show m2 (l.getD i 0).toNat=1 by rw [hb]; rfl]) (A5 [0,0] [0,2,6,7,8,9,11,12,13] (k:=A0 (A1 (A2 (A3 (j:=4) [0,0,0,0] (k:=?_)))))))))
 refine C2 (ch:=[]) (b:=b) (off:=5) (v:=.int .i64 2) (hA:=At.grp 0 0 rfl rfl) (hv:=N0 rfl) (k:=A3 (j:=11) [0,0,0,0,0,0] (k:=C2 (ch:=[(50,false)]) (b:=b) (off:=4) (v:=.slice (some ⟨t,0,none⟩) 2 2) (hA:=At.grp 0 0 rfl rfl) (hv:=N0 rfl) (k:=A3 (j:=13) [0] (k:=J9 (ch:=[(50,false)]) (a:=(some ⟨t,0,none⟩)) (len:=2) (cap:=2) (kd:=.i64) (j:=1) (e:=197) (sz:=1) (S:=(inG [(t,.cells #[.pointer none,pt n1] 197 (0,0))])) (cs:=[.pointer none,pt n1]) (hrd:=Rd.lit) (hb:=(fun hc=>by exact ⟨by decide,by decide,by intro h; cases h⟩)) (k:=GL_env (E':=[⟨57,[(50,false)],.pointer (some ⟨t,1,none⟩)⟩,⟨56,[(50,false)],.int .i64 1⟩,⟨55,[(50,false)],.slice (some ⟨t,0,none⟩) 2 2⟩,⟨54,[(50,false)],.pointer (some ⟨b,4,none⟩)⟩,⟨53,[(50,false)],pt b⟩,⟨52,[(50,false)],pt b⟩,⟨51,[(50,false)],pt b⟩,⟨50,[],.bool false⟩,⟨49,[],.bool false⟩,⟨48,[],.int .i64 2⟩,⟨47,[],.pointer (some ⟨b,5,none⟩)⟩,⟨46,[],pt b⟩,⟨45,[],pt b⟩,⟨44,[],.int .i64 1⟩,⟨0,[],pt b⟩,⟨2,[],.string (bk l)⟩,⟨6,[],.int .i64 (q.size:Int)⟩,⟨7,[],.nilIface⟩,⟨8,[],.iface 256 (pt wb)⟩,⟨9,[],.int .i64 ((last:Nat):Int)⟩,⟨11,[],.bool false⟩,⟨12,[],.int .i64 ((i:Nat):Int)⟩,⟨13,[],.int .i64 1⟩]) kr (C2 (ch:=[(50,false)]) (b:=t) (off:=1) (v:=pt n1) (hA:=At.grp 1 0 rfl rfl) (k:=A5 [0,3] [0,2,6,7,8,9,11,12,60] (k:=A0 ?_))))))))
 refine C5 kr (A7 (A0 (A1 (A2 (A3 (j:=3) [0,0,0] (k:=M6 (bk l) ((i:Nat):Int) ((bk l).size:Int) (by intro _; exact ⟨by omega,by omega,by omega⟩) (E3 67 (x:=.string ((bk l).extract i (bk l).size)) (y:=.string (bk (l.drop i))) (by rw [ext_bk]) (A3 (j:=5) [0] (k:=?_)))))))))
 refine D9 Tryz.func208 (lookup_ b t n1 n2 (l.drop i) (by rw [List.length_drop]; omega) (.inr (by rw [Go.Xml.drop_getD (by omega)]; exact hb)) _ _) ?_
 rintro _ _ ⟨⟨hlk,rfl⟩ | ⟨hlk,hlk2,rfl⟩ | ⟨hlk,hlk2,rfl⟩,rfl⟩
 exact absurd hlk (fun h=>by have:=congrArg List.length h; rw [List.length_drop,List.length_nil] at this; omega)
 have hxs:((bk l).extract last i).size=i - last:=by rw [ByteArray.size_extract]; omega
 have hno:¬ (i+1<l.length∧l.getD (i+1) 0=10):=by
  rintro ⟨h1,h2⟩
  exact hlk2 ⟨by rw [List.length_drop]; omega,by rw [List.getD_eq_getElem?_getD,List.getElem?_drop,← List.getD_eq_getElem?_getD]; exact h2⟩
 refine A5 [0,0,0,0,0,0,0] [0,2,6,7,8,9,12,14,15,16] (k:=A0 (A1 (G_p [0,0,0,0,2,0] [0,2,6,7,8,9,11,12,14,15,16] (k:=A0 (A1 (A1 (G_p [0] [0,2,6,7,8,9,11,12,14,15,78] (k:=A0 ?_))))))))
 refine B9 kr (A1 (H3 ([(b,.cells (J5 [.string eB,.int .i64 0,.string eB,.pointer none,.slice (some ⟨t,0,none⟩) 2 2,.int .i64 2] (Y0 256)) 202 (0,0))]::[(t,.cells #[.pointer none,pt n1] 197 (0,0))]::[(n1,.cells #[.string (mB #[10]),.int .i64 2,.string (mB #[10]),pt n2,.slice none 0 0] 200 (0,0))]::[(n2,.cells #[.string (mB #[10]),.int .i64 4,.string eB,.pointer none,.slice none 0 0] 200 (0,0))]::H) kr (G0 (fuel:=10) [(0,0),(1,0),(2,0),(3,0)] (fun w h=>(h.pk 2 [0,0,0,0])) (k:=F6 4 kr (fun w h=>(h.pk 2 [0,0,0,0])) (M6 (bk l) ((last : Nat) : Int) ((i : Nat) : Int) (by intro _; exact ⟨by omega,by omega,by omega⟩) (G5 kr rfl)) (G0 (fuel:=8) [(5,0)] (fun w h=>(h.pk 2 [0,0,0,0])) (k:=GH_nilF (fn:=.method "WriteString") (fa:=#[.iface 256 (pt wb)]) (fc:=#[]) 6 (hrun:=(fun w=>by kernel_rfl)) (hL:=(fun w h=>(h.pk 2 [0,0,0,0]))) (k:=G0 (fuel:=6) [(7,0)] (fun w h=>(h.pk 2 [0,0,0,0])) (k:=C6 8 (k:=?_)))))))))
 refine M1 0 [4,4] (T2 (t:=256) (rv:=pt wb) (f:=218) (vs:=[.string ((bk l).extract last i)]) (av:=#[pt wb,.string ((bk l).extract last i)]) (hm:=(fun _=>by kernel_rfl)) (hc:=aswStr_ wb (v) g q ((bk l).extract last i) hv (by first | (rw [ByteArray.size_extract]; omega) | (rw [ByteArray.size_append,ByteArray.size_extract]; omega) | (show _+1≤_; rw [ByteArray.size_append,ByteArray.size_extract]; omega)) _ _) (k:=?_))
 rintro _ _ ⟨rfl,v4,g5,hO6,rfl⟩
 refine A9 kr (fun w h=>(h.pk 2 [2,2,2,2])) (G0 (fuel:=0) [(9,0),(10,0),(11,0),(12,0),(13,0)] (fun w h=>(h.pk 2 [2,2,2,2])) (k:=D8 (E':=[⟨0,[],pt b⟩,⟨2,[],.string (bk l)⟩,⟨6,[],.int .i64 (q.size:Int)⟩,⟨7,[],.nilIface⟩,⟨8,[],.iface 256 (pt wb)⟩,⟨10,[],.int .i64 (((bk l).extract last i).size:Int)⟩,⟨11,[],.bool false⟩,⟨12,[],.int .i64 ((i:Nat):Int)⟩,⟨14,[],.string (mB #[10])⟩,⟨15,[],.int .i64 1⟩]) [0,2,6,7,8,10,11,12,14,15] (k:=A0 (A1 (A2 (A3 (j:=3) [0,0,0] (k:=D1 93 ((q.size:Int)+(((bk l).extract last i).size:Int)) (by omega) (by omega) kr (A5 [0] [0,2,6,7,8,11,12,14,15] (k:=?_)))))))))
 refine A0 (A1 (A1 (A2 (A3 (j:=1) [0] (k:=Q2 (ch:=[]) (v:=.nilIface) (e:=true) true (hv:=.inl ⟨rfl,rfl⟩) (k:=A5 [] [0,2,6,7,8,11,12,14,15,95] (k:=A0 (C5 kr ?_))))))))
 refine A7 (A0 (A1 (A2 (A3 (j:=2) [0,0] (k:=T2 (t:=256) (rv:=pt wb) (f:=218) (vs:=[.string (mB #[10])]) (av:=#[pt wb,.string (mB #[10])]) (hm:=(fun _=>by kernel_rfl)) (hc:=aswStr_ wb (v4) g5 (q++((bk l).extract last i)) (mB #[10]) hO6 (by first | (rw [ByteArray.size_extract]; omega) | (rw [ByteArray.size_append,ByteArray.size_extract]; omega) | (show _+1≤_; rw [ByteArray.size_append,ByteArray.size_extract]; omega)) _ _) (k:=?_))))))
 rintro _ _ ⟨rfl,v8,g9,hO10,rfl⟩
 refine A5 [0,0,0,0,0] [0,2,6,7,8,10,11,12,15] (k:=A0 (A1 (A2 (A3 (j:=3) [0,0,0] (k:=D1 104 (((q.size:Int)+(((bk l).extract last i).size:Int))+1) (by omega) (by omega) kr (A5 [0] [0,2,6,7,8,11,12,15] (k:=A0 (A1 ?_))))))))
 refine A1 (A2 (A3 (j:=1) [0] (k:=Q2 (ch:=[]) (v:=.nilIface) (e:=true) true (hv:=.inl ⟨rfl,rfl⟩) (k:=A5 [] [0,2,6,7,8,11,12,15,106] (k:=A0 (C5 kr (A7 (A0 ?_))))))))
 refine A1 (A2 (A3 (j:=3) [0,0,0] (k:=D1 109 (((i:Nat):Int)+1) (by omega) (by omega) kr (A5 [0] [0,2,6,7,8,11,12] (k:=A0 (A1 (G_p [0,0] [0,2,6,7,8,9,11,12] (k:=A0 ?_))))))))
 refine E7 (A6 (B6 ?_))
 have hn6:((q.size:Int)+(((bk l).extract last i).size:Int))+1=(((q++((bk l).extract last i))++(mB #[10])).size:Int):=by rw [ByteArray.size_append,ByteArray.size_append,hxs,show (mB #[10]).size=1 from rfl]; omega
 refine L7 (E':=[⟨0,[],pt b⟩,⟨2,[],.string (bk l)⟩,⟨6,[],.int .i64 (((q.size:Int)+(((bk l).extract last i).size:Int))+1)⟩,⟨7,[],.nilIface⟩,⟨8,[],.iface 256 (pt wb)⟩,⟨9,[],.int .i64 (((i:Nat):Int)+1)⟩,⟨11,[],.bool false⟩,⟨12,[],.int .i64 (((i:Nat):Int)+1)⟩]) kr (L7 (E':=[⟨0,[],pt b⟩,⟨2,[],.string (bk l)⟩,⟨6,[],.int .i64 (((q++((bk l).extract last i))++(mB #[10])).size:Int)⟩,⟨7,[],.nilIface⟩,⟨8,[],.iface 256 (pt wb)⟩,⟨9,[],.int .i64 (((i:Nat):Int)+1)⟩,⟨11,[],.bool false⟩,⟨12,[],.int .i64 (((i:Nat):Int)+1)⟩]) (by rw [hn6]) (F8 0 [2,2,2,2,0,0] (D2 (s':=(i+1,i+1,((q++((bk l).extract last i))++(mB #[10])),v8,g9)) [0,2,6,7,8,9,11,12] kr kr ⟨(by dsimp only; omega),(by dsimp only; omega),(by dsimp only; omega),(by dsimp only; rw [ByteArray.size_append,ByteArray.size_append,hxs,show (mB #[10]).size=1 from rfl]; omega),hO10,(by dsimp only; rw [app_list,app_list,ext_mid]; exact lin_one hT (by omega) hb hno)⟩ (by dsimp only; omega))))
 have hxs:((bk l).extract last i).size=i - last:=by rw [ByteArray.size_extract]; omega
 have hi2:i+1<l.length:=by rw [List.length_drop] at hlk; omega
 have hyes:l.getD (i+1) 0=10:=by rw [List.getD_eq_getElem?_getD,List.getElem?_drop,← List.getD_eq_getElem?_getD] at hlk2; exact hlk2
 refine A5 [0,0,0,0,0,0,0] [0,2,6,7,8,9,12,14,15,16] (k:=A0 (A1 (G_p [0,0,0,0,2,0] [0,2,6,7,8,9,11,12,14,15,16] (k:=A0 (A1 (A1 (G_p [0] [0,2,6,7,8,9,11,12,14,15,78] (k:=A0 ?_))))))))
 refine B9 kr (A1 (H3 ([(b,.cells (J5 [.string eB,.int .i64 0,.string eB,.pointer none,.slice (some ⟨t,0,none⟩) 2 2,.int .i64 2] (Y0 256)) 202 (0,0))]::[(t,.cells #[.pointer none,pt n1] 197 (0,0))]::[(n1,.cells #[.string (mB #[10]),.int .i64 2,.string (mB #[10]),pt n2,.slice none 0 0] 200 (0,0))]::[(n2,.cells #[.string (mB #[10]),.int .i64 4,.string eB,.pointer none,.slice none 0 0] 200 (0,0))]::H) kr (G0 (fuel:=10) [(0,0),(1,0),(2,0),(3,0)] (fun w h=>(h.pk 2 [0,0,0,0])) (k:=F6 4 kr (fun w h=>(h.pk 2 [0,0,0,0])) (M6 (bk l) ((last : Nat) : Int) ((i : Nat) : Int) (by intro _; exact ⟨by omega,by omega,by omega⟩) (G5 kr rfl)) (G0 (fuel:=8) [(5,0)] (fun w h=>(h.pk 2 [0,0,0,0])) (k:=GH_nilF (fn:=.method "WriteString") (fa:=#[.iface 256 (pt wb)]) (fc:=#[]) 6 (hrun:=(fun w=>by kernel_rfl)) (hL:=(fun w h=>(h.pk 2 [0,0,0,0]))) (k:=G0 (fuel:=6) [(7,0)] (fun w h=>(h.pk 2 [0,0,0,0])) (k:=C6 8 (k:=?_)))))))))
 refine M1 0 [4,4] (T2 (t:=256) (rv:=pt wb) (f:=218) (vs:=[.string ((bk l).extract last i)]) (av:=#[pt wb,.string ((bk l).extract last i)]) (hm:=(fun _=>by kernel_rfl)) (hc:=aswStr_ wb (v) g q ((bk l).extract last i) hv (by first | (rw [ByteArray.size_extract]; omega) | (rw [ByteArray.size_append,ByteArray.size_extract]; omega) | (show _+1≤_; rw [ByteArray.size_append,ByteArray.size_extract]; omega)) _ _) (k:=?_))
 rintro _ _ ⟨rfl,v13,g14,hO15,rfl⟩
 refine A9 kr (fun w h=>(h.pk 2 [2,2,2,2])) (G0 (fuel:=0) [(9,0),(10,0),(11,0),(12,0),(13,0)] (fun w h=>(h.pk 2 [2,2,2,2])) (k:=D8 (E':=[⟨0,[],pt b⟩,⟨2,[],.string (bk l)⟩,⟨6,[],.int .i64 (q.size:Int)⟩,⟨7,[],.nilIface⟩,⟨8,[],.iface 256 (pt wb)⟩,⟨10,[],.int .i64 (((bk l).extract last i).size:Int)⟩,⟨11,[],.bool false⟩,⟨12,[],.int .i64 ((i:Nat):Int)⟩,⟨14,[],.string (mB #[10])⟩,⟨15,[],.int .i64 2⟩]) [0,2,6,7,8,10,11,12,14,15] (k:=A0 (A1 (A2 (A3 (j:=3) [0,0,0] (k:=D1 93 ((q.size:Int)+(((bk l).extract last i).size:Int)) (by omega) (by omega) kr (A5 [0] [0,2,6,7,8,11,12,14,15] (k:=?_)))))))))
 refine A0 (A1 (A1 (A2 (A3 (j:=1) [0] (k:=Q2 (ch:=[]) (v:=.nilIface) (e:=true) true (hv:=.inl ⟨rfl,rfl⟩) (k:=A5 [] [0,2,6,7,8,11,12,14,15,95] (k:=A0 (C5 kr ?_))))))))
 refine A7 (A0 (A1 (A2 (A3 (j:=2) [0,0] (k:=T2 (t:=256) (rv:=pt wb) (f:=218) (vs:=[.string (mB #[10])]) (av:=#[pt wb,.string (mB #[10])]) (hm:=(fun _=>by kernel_rfl)) (hc:=aswStr_ wb (v13) g14 (q++((bk l).extract last i)) (mB #[10]) hO15 (by first | (rw [ByteArray.size_extract]; omega) | (rw [ByteArray.size_append,ByteArray.size_extract]; omega) | (show _+1≤_; rw [ByteArray.size_append,ByteArray.size_extract]; omega)) _ _) (k:=?_))))))
 rintro _ _ ⟨rfl,v17,g18,hO19,rfl⟩
 refine A5 [0,0,0,0,0] [0,2,6,7,8,10,11,12,15] (k:=A0 (A1 (A2 (A3 (j:=3) [0,0,0] (k:=D1 104 (((q.size:Int)+(((bk l).extract last i).size:Int))+1) (by omega) (by omega) kr (A5 [0] [0,2,6,7,8,11,12,15] (k:=A0 (A1 ?_))))))))
 refine A1 (A2 (A3 (j:=1) [0] (k:=Q2 (ch:=[]) (v:=.nilIface) (e:=true) true (hv:=.inl ⟨rfl,rfl⟩) (k:=A5 [] [0,2,6,7,8,11,12,15,106] (k:=A0 (C5 kr (A7 (A0 ?_))))))))
 refine A1 (A2 (A3 (j:=3) [0,0,0] (k:=D1 109 (((i:Nat):Int)+2) (by omega) (by omega) kr (A5 [0] [0,2,6,7,8,11,12] (k:=A0 (A1 (G_p [0,0] [0,2,6,7,8,9,11,12] (k:=A0 ?_))))))))
 refine E7 (A6 (B6 ?_))
 have hn6:((q.size:Int)+(((bk l).extract last i).size:Int))+1=(((q++((bk l).extract last i))++(mB #[10])).size:Int):=by rw [ByteArray.size_append,ByteArray.size_append,hxs,show (mB #[10]).size=1 from rfl]; omega
 refine L7 (E':=[⟨0,[],pt b⟩,⟨2,[],.string (bk l)⟩,⟨6,[],.int .i64 (((q.size:Int)+(((bk l).extract last i).size:Int))+1)⟩,⟨7,[],.nilIface⟩,⟨8,[],.iface 256 (pt wb)⟩,⟨9,[],.int .i64 (((i:Nat):Int)+2)⟩,⟨11,[],.bool false⟩,⟨12,[],.int .i64 (((i:Nat):Int)+2)⟩]) kr (L7 (E':=[⟨0,[],pt b⟩,⟨2,[],.string (bk l)⟩,⟨6,[],.int .i64 (((q++((bk l).extract last i))++(mB #[10])).size:Int)⟩,⟨7,[],.nilIface⟩,⟨8,[],.iface 256 (pt wb)⟩,⟨9,[],.int .i64 (((i:Nat):Int)+2)⟩,⟨11,[],.bool false⟩,⟨12,[],.int .i64 (((i:Nat):Int)+2)⟩]) (by rw [hn6]) (F8 0 [2,2,2,2,0,0] (D2 (s':=(i+2,i+2,((q++((bk l).extract last i))++(mB #[10])),v17,g18)) [0,2,6,7,8,9,11,12] kr kr ⟨(by dsimp only; omega),(by dsimp only; omega),(by dsimp only; omega),(by dsimp only; rw [ByteArray.size_append,ByteArray.size_append,hxs,show (mB #[10]).size=1 from rfl]; omega),hO19,(by dsimp only; rw [app_list,app_list,ext_mid]; exact lin_two hT hi2 hb hyes)⟩ (by dsimp only; omega))))
 refine H4 (k:=A3 (j:=3) [0,0,0] (k:=G3 (bk l) ((i:Nat):Int) (by intro _; exact ⟨by omega,by omega⟩) ?_))
 have hb22:=E5 (bk l) ((i:Nat):Int)
 refine A3 (j:=6) [0,0] (k:=E9 (ch:=[]) (b:=b) (off:=6) (len:=256) (sz:=1) (e:=5) (kd:=.u8) (j:=B2 (bk l) ((i:Nat):Int)) (hb:=(fun _=>by exact ⟨by omega,by omega⟩)) (k:=C2 (ch:=[]) (b:=b) (off:=6+Int.toNat (B2 (bk l) ((i:Nat):Int)) * 1) (v:=.int .u8 (m2 (l.getD i 0).toNat)) (hA:=At.grp 0 0 rfl rfl) (hv:=grpC_at (k:=(l.getD i 0).toNat) rfl (by rw [byteJ]; omega) (l.getD i 0).toNat_lt (finK_end (l.getD i 0).toNat_lt)) (k:=E3 42 (x:=.int .u8 (m2 (l.getD i 0).toNat)) (y:=.int .u8 0) (by rw [show m2 (l.getD i 0).toNat=0 by rw [hb]; rfl]) (A5 [0,0] [0,2,6,7,8,9,11,12,13] (k:=A0 (A1 (A2 (A3 (j:=4) [0,0,0,0] (k:=?_)))))))))
 refine C2 (ch:=[]) (b:=b) (off:=5) (v:=.int .i64 2) (hA:=At.grp 0 0 rfl rfl) (hv:=N0 rfl) (k:=A3 (j:=11) [0,0,0,0,0,0] (k:=C2 (ch:=[(50,false)]) (b:=b) (off:=4) (v:=.slice (some ⟨t,0,none⟩) 2 2) (hA:=At.grp 0 0 rfl rfl) (hv:=N0 rfl) (k:=A3 (j:=13) [0] (k:=J9 (ch:=[(50,false)]) (a:=(some ⟨t,0,none⟩)) (len:=2) (cap:=2) (kd:=.i64) (j:=0) (e:=197) (sz:=1) (S:=(inG [(t,.cells #[.pointer none,pt n1] 197 (0,0))])) (cs:=[.pointer none,pt n1]) (hrd:=Rd.lit) (hb:=(fun hc=>by exact ⟨by decide,by decide,by intro h; cases h⟩)) (k:=GL_env (E':=[⟨57,[(50,false)],pt t⟩,⟨56,[(50,false)],.int .i64 0⟩,⟨55,[(50,false)],.slice (some ⟨t,0,none⟩) 2 2⟩,⟨54,[(50,false)],.pointer (some ⟨b,4,none⟩)⟩,⟨53,[(50,false)],pt b⟩,⟨52,[(50,false)],pt b⟩,⟨51,[(50,false)],pt b⟩,⟨50,[],.bool false⟩,⟨49,[],.bool false⟩,⟨48,[],.int .i64 2⟩,⟨47,[],.pointer (some ⟨b,5,none⟩)⟩,⟨46,[],pt b⟩,⟨45,[],pt b⟩,⟨44,[],.int .i64 0⟩,⟨0,[],pt b⟩,⟨2,[],.string (bk l)⟩,⟨6,[],.int .i64 (q.size:Int)⟩,⟨7,[],.nilIface⟩,⟨8,[],.iface 256 (pt wb)⟩,⟨9,[],.int .i64 ((last:Nat):Int)⟩,⟨11,[],.bool false⟩,⟨12,[],.int .i64 ((i:Nat):Int)⟩,⟨13,[],.int .i64 0⟩]) kr (C2 (ch:=[(50,false)]) (b:=t) (off:=0) (v:=.pointer none) (hA:=At.grp 1 0 rfl rfl) (k:=A5 [0,3] [0,2,6,7,8,9,11,12,60] (k:=A0 ?_))))))))
 refine B9 kr (A1 (A2 (A3 (j:=2) [0,0] (k:=D1 62 (((i:Nat):Int)+1) (by omega) (by omega) kr (A5 [0] [0,2,6,7,8,9,11,12] (k:=A0 (E7 (A6 ?_))))))))
 refine B6 (D2 (s':=(i+1,last,q,v,g)) [0,2,6,7,8,9,11,12] kr rfl ⟨(by dsimp only; omega),(by dsimp only; omega),(by dsimp only; omega),(by dsimp only; omega),hv,(by dsimp only; exact lin_step hT hla (by omega) (by first | exact hb.1 | (rw [hb]; decide)))⟩ (by dsimp only; omega))
 refine H4 (k:=A3 (j:=3) [0,0,0] (k:=G3 (bk l) ((i:Nat):Int) (by intro _; exact ⟨by omega,by omega⟩) ?_))
 have hb24:=E5 (bk l) ((i:Nat):Int)
 refine A3 (j:=6) [0,0] (k:=E9 (ch:=[]) (b:=b) (off:=6) (len:=256) (sz:=1) (e:=5) (kd:=.u8) (j:=B2 (bk l) ((i:Nat):Int)) (hb:=(fun _=>by exact ⟨by omega,by omega⟩)) (k:=C2 (ch:=[]) (b:=b) (off:=6+Int.toNat (B2 (bk l) ((i:Nat):Int)) * 1) (v:=.int .u8 (m2 (l.getD i 0).toNat)) (hA:=At.grp 0 0 rfl rfl) (hv:=grpC_at (k:=(l.getD i 0).toNat) rfl (by rw [byteJ]; omega) (l.getD i 0).toNat_lt (finK_end (l.getD i 0).toNat_lt)) (k:=E3 42 (x:=.int .u8 (m2 (l.getD i 0).toNat)) (y:=.int .u8 2) (by rw [hb.2]) (A5 [0,0] [0,2,6,7,8,9,11,12,13] (k:=A0 (A1 (A2 (A3 (j:=4) [0,0,0,0] (k:=?_)))))))))
 refine C2 (ch:=[]) (b:=b) (off:=5) (v:=.int .i64 2) (hA:=At.grp 0 0 rfl rfl) (hv:=N0 rfl) (k:=A5 [0,0,1,1,1,1,1,1,1,1,1,2] [0,2,6,7,8,9,11,12,60] (k:=A0 (B9 kr (A1 (A2 (A3 (j:=2) [0,0] (k:=D1 62 (((i:Nat):Int)+1) (by omega) (by omega) kr (A5 [0] [0,2,6,7,8,9,11,12] (k:=?_)))))))))
 refine A0 (E7 (A6 (B6 (D2 (s':=(i+1,last,q,v,g)) [0,2,6,7,8,9,11,12] kr rfl ⟨(by dsimp only; omega),(by dsimp only; omega),(by dsimp only; omega),(by dsimp only; omega),hv,(by dsimp only; exact lin_step hT hla (by omega) (by first | exact hb.1 | (rw [hb]; decide)))⟩ (by dsimp only; omega)))))
 simp only [bne_eq_false_iff_eq,Bool.and_true] at hc2
 have heq:=hc2
 refine A7 (A0 (A1 (A2 (A3 (j:=3) [0,0,0] (k:=M6 (bk l) ((i:Nat):Int) ((bk l).size:Int) (by intro _; exact ⟨by omega,by omega,by omega⟩) (E3 67 (x:=.string ((bk l).extract i (bk l).size)) (y:=.string (bk (l.drop i))) (by rw [ext_bk]) (A3 (j:=5) [0] (k:=D9 Tryz.func208 (lookup_ b t n1 n2 (l.drop i) (by rw [List.length_drop]; omega) (.inl (List.drop_eq_nil_of_le (by omega))) _ _) ?_))))))))
 rintro _ _ ⟨⟨hlk,rfl⟩ | ⟨hlk,hlk2,rfl⟩ | ⟨hlk,hlk2,rfl⟩,rfl⟩
 refine A5 [0,0,0,0,0,0,0] [0,2,6,7,8,9,12,14,15,16] (k:=A0 (A1 (G_p [0,0,1,1,3,0] [0,2,6,7,8,9,11,12,14,15,16] (k:=A0 (A1 (A1 (G_p [0] [0,2,6,7,8,9,11,12,14,15,78] (k:=A0 ?_))))))))
 refine C5 kr (A7 (A0 (A2 (A3 (j:=2) [0,0] (k:=D1 112 (((i:Nat):Int)+1) (by omega) (by omega) kr (A5 [0] [0,2,6,7,8,9,11,12] (k:=B8 (D2 (s':=(i+1,last,q,v,g)) [0,2,6,7,8,9,11,12] kr rfl ⟨(by dsimp only; omega),(by dsimp only; omega),(by dsimp only; omega),(by dsimp only; omega),hv,(by dsimp only; exact lin_at hT hla (by omega))⟩ (by dsimp only; omega)))))))))
 exact absurd (List.drop_eq_nil_of_le (by omega)) hlk
 rw [List.length_drop] at hlk; omega
 simp only [decide_eq_false_iff_not] at hc1
 have hgt:=hc1
 refine E7 (A6 (A6 (B6 (A0 (A1 (A1 (G_p [0,0,0,0] [2,6,7,8,9,116] (k:=A0 ?_))))))))
 refine B1 (b:=((last:Nat):Int) != ((bk l).size:Int)) kr (fun hc27=>?_) (fun hc27=>?_)
 simp only [bne_iff_ne,ne_eq] at hc27
 have hxs:((bk l).extract last (bk l).size).size=l.length - last:=by rw [ByteArray.size_extract]; omega
 refine A1 (H3 ([(b,.cells (J5 [.string eB,.int .i64 0,.string eB,.pointer none,.slice (some ⟨t,0,none⟩) 2 2,.int .i64 2] (Y0 256)) 202 (0,0))]::[(t,.cells #[.pointer none,pt n1] 197 (0,0))]::[(n1,.cells #[.string (mB #[10]),.int .i64 2,.string (mB #[10]),pt n2,.slice none 0 0] 200 (0,0))]::[(n2,.cells #[.string (mB #[10]),.int .i64 4,.string eB,.pointer none,.slice none 0 0] 200 (0,0))]::H) kr (G0 (fuel:=10) [(0,0),(1,0),(2,0)] (fun w h=>(h.pk 2 [0,0,0,0])) (k:=F6 3 kr (fun w h=>(h.pk 2 [0,0,0,0])) (M6 (bk l) ((last : Nat) : Int) ((bk l).size : Int) (by intro _; exact ⟨by omega,by omega,by omega⟩) (G5 kr rfl)) (G0 (fuel:=8) [(4,0)] (fun w h=>(h.pk 2 [0,0,0,0])) (k:=GH_nilF (fn:=.method "WriteString") (fa:=#[.iface 256 (pt wb)]) (fc:=#[]) 5 (hrun:=(fun w=>by kernel_rfl)) (hL:=(fun w h=>(h.pk 2 [0,0,0,0]))) (k:=G0 (fuel:=6) [(6,0)] (fun w h=>(h.pk 2 [0,0,0,0])) (k:=C6 7 (k:=M1 0 [4,4] ?_))))))))
 refine T2 (t:=256) (rv:=pt wb) (f:=218) (vs:=[.string ((bk l).extract last (bk l).size)]) (av:=#[pt wb,.string ((bk l).extract last (bk l).size)]) (hm:=(fun _=>by kernel_rfl)) (hc:=aswStr_ wb (v) g q ((bk l).extract last (bk l).size) hv (by first | (rw [ByteArray.size_extract]; omega) | (rw [ByteArray.size_append,ByteArray.size_extract]; omega) | (show _+1≤_; rw [ByteArray.size_append,ByteArray.size_extract]; omega)) _ _) (k:=?_)
 rintro _ _ ⟨rfl,v28,g29,hO30,rfl⟩
 refine A9 kr (fun w h=>(h.pk 2 [2,2,2,2])) (G0 (fuel:=0) [(8,0),(9,0),(10,0),(11,0),(12,0)] (fun w h=>(h.pk 2 [2,2,2,2])) (k:=D8 (E':=[⟨6,[],.int .i64 (q.size:Int)⟩,⟨7,[],.nilIface⟩,⟨10,[],.int .i64 (((bk l).extract last (bk l).size).size:Int)⟩]) [6,7,10] (k:=A0 (A2 (A3 (j:=3) [0,0,0] (k:=D1 130 ((q.size:Int)+(((bk l).extract last (bk l).size).size:Int)) (by omega) (by omega) kr (A5 [0] [6,7] (k:=A0 ?_))))))))
 refine B4 (F8 0 [2,2,2,2,0,0] (B7 [.tmp 6,.tmp 7] [.int .i64 ((q.size:Int)+(((bk l).extract last (bk l).size).size:Int)),.nilIface] (k:=?_)))
 exact ⟨_,_,_,rfl,(by have h:=lin_fin hT (by omega); rw [← ba_of (a:=(q++((bk l).extract last (bk l).size))) (by rw [app_list,ext_mid,h,List.take_of_length_le (by rw [List.length_drop]; omega)])]; exact hO30),rfl⟩
 simp only [bne_eq_false_iff_eq] at hc27
 refine A7 (A0 (B4 (B7 [.tmp 6,.tmp 7] [.int .i64 (q.size:Int),.nilIface] (k:=?_))))
 exact ⟨_,_,_,rfl,(by have h:=lin_fin hT (by omega); rw [← ba_of (a:=q) (by rw [h,List.drop_eq_nil_of_le (show l.length≤last by omega),List.append_nil])]; exact hv),rfl⟩
end Go.Proofs.YtcgmnagcgkhogaaGreatDoor
namespace Go.Sw
open Go.RowKit
theorem Z7 {d:Bool} {P:Program} {ops:Array Oper} {i:Nat} {Q:F0} {n:Fr} {E:Env} {W0:World} {H:List Grp} {o:Oper} {ch:List (Nat × Bool)} {src dst e:TypeId} {x:Operand} {a:Option Addr} {cap:Nat} {S:Nat→Obj→Prop} (b:ByteArray)
    (ho:ops[i]? = some o:=by exact rfl) (hop:o.op=.convert src dst x:=by exact rfl) (hx:evO E ch x=some (.slice a b.size cap):=by kernel_rfl) (hs:P.underlying src=some (.slice e):=by kernel_rfl) (he:P.underlying e=some (.int .u8):=by kernel_rfl) (hds:P.underlying dst=some .string:=by kernel_rfl)
    (hch:D7 ops E o.guard=some ch:=by kernel_rfl) (hd:G1 n ch o.dst=true:=by kernel_rfl) (hk:K5 E ch=true:=by kernel_rfl)
    (hrd:Rd S a (u8s b.data.toList)) (hS:∀ b o,S b o→At W0 H b o)
    (k:GL d P ops (i+1) Q n (Env.put E o.dst ch (.string b)) W0 H):GL d P ops i Q n E W0 H:=by
  cases a with
  | some a =>
    refine N5 (cap:=cap) b.data.toList ho hop ?_ hs he hds hch hd hk hrd hS ?_
    rw [hx,show b.data.toList.length=b.size from Array.length_toList]
    have:(⟨b.data.toList.toArray⟩:ByteArray)=b:=by cases b; simp
    rw [this]; exact k
  | none =>
    have h0:b=ByteArray.empty:=by
      rcases hrd with h | ⟨_,_,_,_,_,h,_⟩
      ·
        have h1:=congrArg List.length h
        unfold u8s at h1
        rw [List.length_map] at h1
        cases b with | mk d =>
        have:d=#[]:=Array.eq_empty_of_size_eq_zero (by simpa using h1)
        rw [this]; rfl
      cases h
    refine J1 ho hch hd hk (fun r hr _ w _=>?_) k
    unfold execOp
    simp only [hop]
    rw [hr _ _ hx,h0]
    have:=run_convert_bytes_string (P:=P) w src dst e none ByteArray.empty.size cap hs he hds
    simp only [Sem.run_bind,this]
    exact ⟨rfl,rfl⟩
end Go.Sw
namespace Go.Proofs.YtcgmnagcgkhogaaGreatDoor
open Go.Sw Go.Sha Go.Esc Go.Json Go.Xml
theorem genReplace_ (b t n1 n2:Nat) (l:List UInt8) (hl:l.length≤1000000) (W0:World) (H:List Grp):Tri Tryz.prog 205 #[pt b,.string (bk l)] W0 ([(b,.cells (J5 [.string eB,.int .i64 0,.string eB,.pointer none,.slice (some ⟨t,0,none⟩) 2 2,.int .i64 2] (Y0 256)) 202 (0,0))]::[(t,.cells #[.pointer none,pt n1] 197 (0,0))]::[(n1,.cells #[.string (mB #[10]),.int .i64 2,.string (mB #[10]),pt n2,.slice none 0 0] 200 (0,0))]::[(n2,.cells #[.string (mB #[10]),.int .i64 4,.string eB,.pointer none,.slice none 0 0] 200 (0,0))]::H) (fun v H'=>v=.string (bk (B5 l))∧H'=([(b,.cells (J5 [.string eB,.int .i64 0,.string eB,.pointer none,.slice (some ⟨t,0,none⟩) 2 2,.int .i64 2] (Y0 256)) 202 (0,0))]::[(t,.cells #[.pointer none,pt n1] 197 (0,0))]::[(n1,.cells #[.string (mB #[10]),.int .i64 2,.string (mB #[10]),pt n2,.slice none 0 0] 200 (0,0))]::[(n2,.cells #[.string (mB #[10]),.int .i64 4,.string eB,.pointer none,.slice none 0 0] 200 (0,0))]::H)):=by
 have hbz:=D0 l
 refine D5 15 Tryz.func205 ?_
 refine A1 (C3 (E':=[⟨0,[],pt b⟩,⟨1,[],.string (bk l)⟩]) [0] [0,1] (k:=A0 (A1 (A2 (A3 (j:=2) [0,0] (k:=GL_makeLC (i:=2) (ch:=[]) (t:=255) (e:=5) (inf:=Tryz.t5) (z:=.int .u8 0) (l:=0) (m:=(bk l).size) (c:=(T4 [] (bk l).size).toList) rfl rfl kr kr kr kr kr (Nat.zero_le _) (by rw [hbz]; show (1:Int) * _≤_; omega) (by omega) (by rw [hbz]; show l.length * 1≤16777216; omega) (by rw [Array.toArray_toList]; exact madeZ _) kr kr kr (fun b1=>J0 (.slice none 0 0) (fun b2=>?_))))))))
 refine C9 0 0 (.slice (some ⟨b1,0,none⟩) 0 ((bk l).size)) rfl (A5 [] [0,1,5] (k:=A0 (A1 (A2 (A3 (j:=3) [0,0,0] (k:=M1 0 [2,2,2,2] (D9 (vs:=[pt b,.iface 256 (pt b2),.string (bk l)]) Tryz.func206 (genWrite_ b t n1 n2 b2 (.slice (some ⟨b1,0,none⟩) 0 ((bk l).size)) [(b1,.cells (T4 [] (bk l).size).toList.toArray 5 (0,0))] l (by omega) (own_cut0 (c:=(T4 [] (bk l).size).toList) (by rw [Array.length_toList,W4]; show 0+_=_ * 1; omega)) _ _) ?_)))))))
 rintro _ _ ⟨n,v2,g2,rfl,hO,rfl⟩
 obtain ⟨ra,rc,rfl,hcap,hrd⟩:=hO.shape
 refine C0 (E':=[⟨5,[],pt b2⟩]) [] [5] (k:=A0 (A1 (A2 (C1 4 0 rfl rfl (Z7 (ch:=[]) (a:=ra) (cap:=rc) (e:=5) (S:=(inG g2)) (bk (B5 l)) (hrd:=show Rd (inG g2) ra (u8s (B5 l)) from hrd) (hS:=E0 5 rfl) (k:=C0 (E':=[⟨4,[],.string (bk (B5 l))⟩]) [0] [4] (k:=A0 (B4 ?_))))))))
 refine F8 2 [0,0,0,0] (B7 [.tmp 4] [.string (bk (B5 l))] (k:=?_))
 exact ⟨rfl,rfl⟩
theorem newRepC_ (v:Nat) (W0:World) (H:List Grp):Tri Tryz.prog 70 #[.slice (some ⟨v,0,none⟩) 4 4] W0 ([(v,.cells #[.string (mB #[13,10]),.string (mB #[10]),.string (mB #[13]),.string (mB #[10])] 9 (0,0))]::H) (fun x H'=>∃ b a cap g,x=pt b∧Go.Sw.Own 9 1 (.slice a 4 cap) g 4 crT∧H'=repG b 0 0 .nilIface (.slice a 4 cap)::g::[(v,.cells #[.string (mB #[13,10]),.string (mB #[10]),.string (mB #[13]),.string (mB #[10])] 9 (0,0))]::H):=by
 refine D5 12 Tryz.func70 ?_
 refine A1 (G_p [0] [0] (k:=A0 (A1 (A1 (A2 (A3 (j:=3) [0,0,0] (k:=?_)))))))
 have hw1:Int.tmod 4 2=4 % 2:=r64 (by omega)
 refine GL_w 5 hw1 kr (A5 [0] [0,6] (k:=A0 (B1 (b:=(4 % 2)==1) kr (fun hc2=>?_) (fun hc2=>?_))))
 exact absurd hc2 (by decide)
 refine A7 (A0 (A1 (A2 (A3 (j:=1) [0] (k:=GL_heap rfl (H':=([]::[(v,.cells #[.string (mB #[13,10]),.string (mB #[10]),.string (mB #[13]),.string (mB #[10])] 9 (0,0))]::H)) (fun w h=>h.flat (List.Perm.refl _)) (L8 (inf:=Tryz.t9) (e:=9) (s:=.slice none 0 0) 4 1 0 rfl rfl Go.Sw.Own.nil (by omega) (by show (0+4) * 16≤140737488355328; omega) (fun v3 g4 hO5=>?_)))))))
 replace hO5:=own_nilE hO5
 obtain ⟨a6,cap7,rfl,hcap8,hrd9⟩:=hO5.shape
 refine A3 (j:=3) [0] (k:=V3 (.agg #[.int .u32 0,.int .i32 0,.int .u32 0,.nilIface,.slice a6 4 cap7]) (fun b10=>C0 (E':=[⟨2,[],pt b10⟩]) [0] [2] (k:=A0 (B4 (B7 [.tmp 2] [pt b10] (k:=?_))))))
 exact ⟨_,_,_,_,rfl,hO5,rfl⟩
theorem buildC_ (rb:Nat) (a:Option Addr) (cap:Nat) (g:Grp) (hr:Rd (inG g) a crT) (W0:World) (H:List Grp):Tri Tryz.prog 111 #[pt rb] W0 ([(rb,.cells #[.int .u32 0,.int .i32 1,.int .u32 0,.nilIface,.slice a 4 cap] 150 (0,0))]::g::H) (fun x H'=>∃ b t n1 n2,x=.iface 177 (pt b)∧H'=([(b,.cells (J5 [.string eB,.int .i64 0,.string eB,.pointer none,.slice (some ⟨t,0,none⟩) 2 2,.int .i64 2] (Y0 256)) 202 (0,0))]::[(t,.cells #[.pointer none,pt n1] 197 (0,0))]::[(n1,.cells #[.string (mB #[10]),.int .i64 2,.string (mB #[10]),pt n2,.slice none 0 0] 200 (0,0))]::[(n2,.cells #[.string (mB #[10]),.int .i64 4,.string eB,.pointer none,.slice none 0 0] 200 (0,0))]::[(rb,.cells #[.int .u32 0,.int .i32 1,.int .u32 0,.nilIface,.slice a 4 cap] 150 (0,0))]::g::H)):=by
 refine D5 132 Tryz.func111 ?_
 refine A1 (C3 (E':=[⟨0,[],pt rb⟩]) [0] [0] (k:=A0 (A1 (A2 (A3 (j:=3) [0,0,0] (k:=C1 0 4 rfl rfl (C0 (E':=[⟨3,[],.slice a 4 cap⟩]) [0] [3] (k:=A0 ?_))))))))
 refine A1 (A1 (G_p [0,0,0,0,1,1,1,1,1,3] [3,28] (k:=A0 (C5 kr (A7 (A0 (A1 (G_p [0] [3,4] (k:=?_)))))))))
 refine A0 (A1 (A1 (G_p [0] [3,4,5] (k:=A0 (B3 (O0 1 (F5 (A1 ?_))))))))
 refine A1 (G_p [0,0,0,0] [3,4,5,40] (k:=A0 (B9 kr (A7 (A0 (A1 (B3 (A1 ?_))))))))
 refine A1 (A2 (A3 (j:=2) [0,0] (k:=E4 4 0 1 hr (by exact ⟨by decide,by decide,by intro h; cases h⟩) (H7 (0 * 1) (.string (mB #[13,10])) hr (E0 1 rfl) (fun _=>rfl) (A5 [0,0] [3,4,5,48] (k:=A0 (B9 kr (A1 ?_))))))))
 refine A2 (A3 (j:=1) [0] (k:=M1 0 [1] (D9 Tryz.func129 (mkGen_ a cap g hr _ _) ?_)))
 rintro _ _ ⟨b,t,n1,n2,rfl,rfl⟩
 refine C0 (E':=[⟨2,[],.iface 177 (pt b)⟩]) [0,0] [2] (k:=A0 (B4 (A4 (B0 (A4 (A4 (B0 (A4 ?_))))))))
 refine F8 0 [0,0,0,0,1,0] (B7 [.tmp 2] [.iface 177 (pt b)] (k:=?_))
 exact ⟨_,_,_,_,rfl,rfl⟩
def crRep (g:Grp) (x:Value) (K:List Grp):Prop:=∃ b t n1 n2,x=.iface 177 (pt b)∧K=[[(b,.cells (J5 [.string eB,.int .i64 0,.string eB,.pointer none,.slice (some ⟨t,0,none⟩) 2 2,.int .i64 2] (Y0 256)) 202 (0,0))],[(t,.cells #[.pointer none,pt n1] 197 (0,0))],[(n1,.cells #[.string (mB #[10]),.int .i64 2,.string (mB #[10]),pt n2,.slice none 0 0] 200 (0,0))],[(n2,.cells #[.string (mB #[10]),.int .i64 4,.string eB,.pointer none,.slice none 0 0] 200 (0,0))],g]
theorem buildOnceC_ (rb:Nat) (a:Option Addr) (cap:Nat) (g:Grp) (hr:Rd (inG g) a crT) (W0:World) (H:List Grp):Tri Tryz.prog 94 #[pt rb] W0 ([(rb,.cells #[.int .u32 0,.int .i32 1,.int .u32 0,.nilIface,.slice a 4 cap] 150 (0,0))]::g::H) (fun _ H'=>∃ r2 K2,crRep g r2 K2∧H'=repG rb 0 1 r2 (.slice none 0 0)::(K2++H)):=by
 refine D5 10 Tryz.func94 ?_
 refine A1 (A2 (A3 (j:=2) [0,0] (k:=D9 Tryz.func111 (buildC_ rb a cap g hr _ _) ?_)))
 rintro _ _ ⟨b,t,n1,n2,rfl,rfl⟩
 refine A3 (j:=5) [0,0] (k:=C9 4 3 (.iface 177 (pt b)) rfl (C0 (E':=[⟨0,[],pt rb⟩]) [] [0] (k:=A0 (A2 (A3 (j:=3) [0,0,0] (k:=C9 4 4 (.slice none 0 0) rfl (C0 (E':=[]) [] [] (k:=F8 0 [4,0,0,0,0,0] ?_))))))))
 refine B7 [] [] (k:=?_)
 exact ⟨_,_,⟨b,t,n1,n2,rfl,rfl⟩,rfl⟩
theorem crOnce (rb:Nat) (a:Option Addr) (cap:Nat) (g:Grp) (hr:Rd (inG g) a crT) (W0:World) (H:List Grp):Tri Tryz.prog 93 #[pt rb,.func (.func 94) #[pt rb] #[]] W0 (repG rb 0 0 .nilIface (.slice a 4 cap)::([g]++H)) (fun _ H'=>∃ r2 K2,crRep g r2 K2∧H'=repG rb 1 0 r2 (.slice none 0 0)::(K2++H)) :=
 onceDo_ rb .nilIface (.slice a 4 cap) (.slice none 0 0) [g] (crRep g) (fun W0 H=>buildOnceC_ rb a cap g hr W0 H) W0 H
theorem crReplace_ (rb:Nat) (a:Option Addr) (cap:Nat) (g:Grp) (hr:Rd (inG g) a crT) (l:List UInt8) (hl:l.length≤1000000) (W0:World) (H:List Grp):Tri Tryz.prog 71 #[pt rb,.string (bk l)] W0 ([(rb,.cells #[.int .u32 0,.int .i32 0,.int .u32 0,.nilIface,.slice a 4 cap] 150 (0,0))]::g::H) (fun v H'=>v=.string (bk (B5 l))∧H'=H):=by
 refine D5 17 Tryz.func71 ?_
 refine A1 (G_p [0] [0,1] (k:=A0 (A1 (A2 (A3 (j:=5) [0,0,0,0,0] (k:=D9 Tryz.func93 (crOnce rb a cap g hr _ _) ?_))))))
 rintro _ _ ⟨_,_,⟨b,t,n1,n2,rfl,rfl⟩,rfl⟩
 refine A5 [] [0,1] (k:=A0 (A1 (A2 (A3 (j:=3) [0,0,0] (k:=C1 0 3 rfl rfl (A3 (j:=5) [0] (k:=M1 0 [1,1,1,1] (T2 (t:=177) (rv:=pt b) (f:=205) (vs:=[.string (bk l)]) (av:=#[pt b,.string (bk l)]) (hm:=(fun _=>by kernel_rfl)) (hc:=genReplace_ b t n1 n2 l hl _ _) (k:=?_)))))))))
 rintro _ _ ⟨rfl,rfl⟩
 refine C0 (E':=[⟨4,[],.string (bk (B5 l))⟩]) [0] [4] (k:=A0 (B4 (F3 (H':=([(b,.cells (J5 [.string eB,.int .i64 0,.string eB,.pointer none,.slice (some ⟨t,0,none⟩) 2 2,.int .i64 2] (Y0 256)) 202 (0,0))]::[(t,.cells #[.pointer none,pt n1] 197 (0,0))]::[(n1,.cells #[.string (mB #[10]),.int .i64 2,.string (mB #[10]),pt n2,.slice none 0 0] 200 (0,0))]::[(n2,.cells #[.string (mB #[10]),.int .i64 4,.string eB,.pointer none,.slice none 0 0] 200 (0,0))]::[(rb,.cells #[.int .u32 1,.int .i32 0,.int .u32 0,.iface 177 (pt b),.slice none 0 0] 150 (0,0))]::H)) (fun w h=>h.erase 5) (F3 (H':=([(b,.cells (J5 [.string eB,.int .i64 0,.string eB,.pointer none,.slice (some ⟨t,0,none⟩) 2 2,.int .i64 2] (Y0 256)) 202 (0,0))]::[(t,.cells #[.pointer none,pt n1] 197 (0,0))]::[(n1,.cells #[.string (mB #[10]),.int .i64 2,.string (mB #[10]),pt n2,.slice none 0 0] 200 (0,0))]::[(n2,.cells #[.string (mB #[10]),.int .i64 4,.string eB,.pointer none,.slice none 0 0] 200 (0,0))]::H)) (fun w h=>h.erase 4) (F3 (H':=([(b,.cells (J5 [.string eB,.int .i64 0,.string eB,.pointer none,.slice (some ⟨t,0,none⟩) 2 2,.int .i64 2] (Y0 256)) 202 (0,0))]::[(t,.cells #[.pointer none,pt n1] 197 (0,0))]::[(n1,.cells #[.string (mB #[10]),.int .i64 2,.string (mB #[10]),pt n2,.slice none 0 0] 200 (0,0))]::H)) (fun w h=>h.erase 3) (F3 (H':=([(b,.cells (J5 [.string eB,.int .i64 0,.string eB,.pointer none,.slice (some ⟨t,0,none⟩) 2 2,.int .i64 2] (Y0 256)) 202 (0,0))]::[(t,.cells #[.pointer none,pt n1] 197 (0,0))]::H)) (fun w h=>h.erase 2) (F3 (H':=([(b,.cells (J5 [.string eB,.int .i64 0,.string eB,.pointer none,.slice (some ⟨t,0,none⟩) 2 2,.int .i64 2] (Y0 256)) 202 (0,0))]::H)) (fun w h=>h.erase 1) (F3 (H':=H) (fun w h=>h.erase 0) ?_))))))))
 refine B7 [.tmp 4] [.string (bk (B5 l))] (k:=?_)
 exact ⟨rfl,rfl⟩
end Go.Proofs.YtcgmnagcgkhogaaGreatDoor
namespace Go.Proofs.YtcgmnagcgkhogaaGreatDoor
open Go.Sw Go.Sha Go.Esc Go.RowKit
theorem lit38:(⟨#[Nat.toUInt8 38]⟩:ByteArray).data.toList=[38]:=rfl
theorem sz38:(⟨#[Nat.toUInt8 38]⟩:ByteArray).size=1:=rfl
theorem toNat1 (m:Nat):Int.toNat ((m:Int)+1)=m+1:=by omega
theorem sz_drop (s:ByteArray) (k:Nat):(s.extract k s.size).size=s.size - k:=by rw [ByteArray.size_extract,Nat.min_self]
theorem w32i {x:Int} (h0:0≤x) (h1:x≤2147483647):IntKind.wrap .i32 x=x:=by
 have e:∀ y,IntKind.wrap .i32 y=if y % 4294967296<2147483648 then y % 4294967296 else y % 4294967296 - 4294967296:=by intro y; first | rfl | (simp [IntKind.wrap,IntKind.bits,IntKind.signed]; split <;> split <;> omega)
 rw [e]; split <;> omega
theorem number10_ (s:ByteArray) (hs:s.size≤1000000000000) (W0:World) (H:List Grp) (hW:V4 W0):Tri Tryz.prog 123 #[.string s,.int .i64 10,.int .i64 7] W0 H (fun v H'=>v=.int .i64 (K9 s.data.toList 10 7)∧H'=H):=by
 refine D5 42 Tryz.func123 ?_
 refine A1 (G_p [0] [0,1,2] (k:=A0 (A1 (A1 (G_p [0,0,0,0,0,0,0,0,5] [0,1,17] (k:=A0 (B1 (b:=((s.size:Int)==0)||(decide ((s.size:Int) > 7))) kr (fun hc1=>?_) (fun hc1=>?_))))))))
 simp only [Bool.or_eq_true,decide_eq_true_eq,beq_iff_eq,gt_iff_lt] at hc1
 refine A1 (C3 (E':=[⟨6,[],.int .i64 (-1)⟩]) [0] [6] (k:=A0 (B4 (A4 (B7 [.tmp 6] [.int .i64 (-1)] (k:=?_))))))
 exact ⟨congrArg (Value.int .i64) (by unfold K9; rw [if_pos (by rw [H0]; omega)]),rfl⟩
 simp only [Bool.or_eq_false_iff,decide_eq_false_iff_not,beq_eq_false_iff_ne,gt_iff_lt] at hc1
 refine A7 (A0 (A1 (A2 (A3 (j:=2) [0,0] (k:=D9 Tryz.func135 (parse10_ s (by omega) (by omega) _ _ hW) ?_)))))
 rintro _ _ ⟨⟨n,hV,hn0,hn1,rfl⟩ | ⟨hV,N,rfl⟩,rfl⟩
 have hp:=pow16 (show s.size≤7 by omega)
 refine A5 [0,0,0,0,0] [7,8] (k:=A0 (A1 (A1 (A2 (A3 (j:=1) [0] (k:=Q2 (ch:=[]) (v:=.nilIface) (e:=true) true (hv:=.inl ⟨rfl,rfl⟩) (k:=A3 (j:=13) [0,0,0,3,0,0,0,5,0,0,0] (k:=P9 [(34,false)] Tryz.func131 (fun hc=>vRune_ (IntKind.wrap .i32 n) _ _) ?_))))))))
 refine A5 [0,5] [7,39] (k:=A0 (B1 (b:=((n==0)||(decide (n > 1114111)))||(!(isB (IntKind.wrap .i32 n)))) kr (fun hc2=>?_) (fun hc2=>?_)))
 simp only [Bool.or_eq_true,decide_eq_true_eq,beq_iff_eq,gt_iff_lt,Bool.not_eq_true'] at hc2
 have hbad:=hc2
 refine A1 (C3 (E':=[⟨6,[],.int .i64 (-1)⟩]) [0] [6] (k:=A0 (B4 (A4 (B7 [.tmp 6] [.int .i64 (-1)] (k:=?_))))))
 exact ⟨congrArg (Value.int .i64) (by unfold K9; rw [if_neg (by rw [H0]; omega),hV]; dsimp only; rw [if_pos]; unfold isB; by_cases hn:n=0; exact .inl hn; right; rw [← Bool.not_eq_true]; intro hb; have hr:=isB_iff.1 hb; unfold isR at hr; rcases hbad with (h | h) | h; exact hn h; omega; rw [w32i (by omega) (by omega)] at h; rw [show isB n=true from hb] at h; cases h),rfl⟩
 simp only [Bool.or_eq_false_iff,decide_eq_false_iff_not,beq_eq_false_iff_ne,gt_iff_lt,Bool.not_eq_false'] at hc2
 have hok:=hc2
 refine A7 (A0 (A1 (A2 (A3 (j:=2) [0,0] (k:=D1 41 n (by omega) (by omega) kr (C0 (E':=[⟨6,[],.int .i64 n⟩]) [0] [6] (k:=A0 (B4 ?_))))))))
 refine B7 [.tmp 6] [.int .i64 n] (k:=?_)
 exact ⟨congrArg (Value.int .i64) (by unfold K9; rw [if_neg (by rw [H0]; omega),hV]; dsimp only; rw [if_neg]; rintro (h | h); exact hok.1.1 h; have h2:=hok.2; rw [w32i (by omega) (by omega),h] at h2; cases h2),rfl⟩
 refine A5 [0,0,0,0,0] [7,8] (k:=A0 (A1 (A1 (A2 (A3 (j:=1) [0] (k:=Q2 (ch:=[]) (v:=.iface 216 (pt N)) (e:=false) true (hv:=.inr ⟨⟨_,_,rfl⟩,rfl⟩) (k:=A5 [0,1,1,2,0,1,1,2,0,1,1,1,1,2] [7,39] (k:=A0 ?_))))))))
 refine B9 kr (A1 (C3 (E':=[⟨6,[],.int .i64 (-1)⟩]) [0] [6] (k:=A0 (B4 (A4 (B7 [.tmp 6] [.int .i64 (-1)] (k:=?_)))))))
 exact ⟨congrArg (Value.int .i64) (by unfold K9; rw [if_neg (by rw [H0]; omega),hV]),rfl⟩
theorem number16_ (s:ByteArray) (hs:s.size≤1000000000000) (W0:World) (H:List Grp) (hW:V4 W0):Tri Tryz.prog 123 #[.string s,.int .i64 16,.int .i64 6] W0 H (fun v H'=>v=.int .i64 (K9 s.data.toList 16 6)∧H'=H):=by
 refine D5 42 Tryz.func123 ?_
 refine A1 (G_p [0] [0,1,2] (k:=A0 (A1 (A1 (G_p [0,0,0,0,0,0,0,0,5] [0,1,17] (k:=A0 (B1 (b:=((s.size:Int)==0)||(decide ((s.size:Int) > 6))) kr (fun hc1=>?_) (fun hc1=>?_))))))))
 simp only [Bool.or_eq_true,decide_eq_true_eq,beq_iff_eq,gt_iff_lt] at hc1
 refine A1 (C3 (E':=[⟨6,[],.int .i64 (-1)⟩]) [0] [6] (k:=A0 (B4 (A4 (B7 [.tmp 6] [.int .i64 (-1)] (k:=?_))))))
 exact ⟨congrArg (Value.int .i64) (by unfold K9; rw [if_pos (by rw [H0]; omega)]),rfl⟩
 simp only [Bool.or_eq_false_iff,decide_eq_false_iff_not,beq_eq_false_iff_ne,gt_iff_lt] at hc1
 refine A7 (A0 (A1 (A2 (A3 (j:=2) [0,0] (k:=D9 Tryz.func135 (parse16_ s (by omega) (by omega) _ _ hW) ?_)))))
 rintro _ _ ⟨⟨n,hV,hn0,hn1,rfl⟩ | ⟨hV,N,rfl⟩,rfl⟩
 have hp:=pow16 (show s.size≤7 by omega)
 refine A5 [0,0,0,0,0] [7,8] (k:=A0 (A1 (A1 (A2 (A3 (j:=1) [0] (k:=Q2 (ch:=[]) (v:=.nilIface) (e:=true) true (hv:=.inl ⟨rfl,rfl⟩) (k:=A3 (j:=13) [0,0,0,3,0,0,0,5,0,0,0] (k:=P9 [(34,false)] Tryz.func131 (fun hc=>vRune_ (IntKind.wrap .i32 n) _ _) ?_))))))))
 refine A5 [0,5] [7,39] (k:=A0 (B1 (b:=((n==0)||(decide (n > 1114111)))||(!(isB (IntKind.wrap .i32 n)))) kr (fun hc2=>?_) (fun hc2=>?_)))
 simp only [Bool.or_eq_true,decide_eq_true_eq,beq_iff_eq,gt_iff_lt,Bool.not_eq_true'] at hc2
 have hbad:=hc2
 refine A1 (C3 (E':=[⟨6,[],.int .i64 (-1)⟩]) [0] [6] (k:=A0 (B4 (A4 (B7 [.tmp 6] [.int .i64 (-1)] (k:=?_))))))
 exact ⟨congrArg (Value.int .i64) (by unfold K9; rw [if_neg (by rw [H0]; omega),hV]; dsimp only; rw [if_pos]; unfold isB; by_cases hn:n=0; exact .inl hn; right; rw [← Bool.not_eq_true]; intro hb; have hr:=isB_iff.1 hb; unfold isR at hr; rcases hbad with (h | h) | h; exact hn h; omega; rw [w32i (by omega) (by omega)] at h; rw [show isB n=true from hb] at h; cases h),rfl⟩
 simp only [Bool.or_eq_false_iff,decide_eq_false_iff_not,beq_eq_false_iff_ne,gt_iff_lt,Bool.not_eq_false'] at hc2
 have hok:=hc2
 refine A7 (A0 (A1 (A2 (A3 (j:=2) [0,0] (k:=D1 41 n (by omega) (by omega) kr (C0 (E':=[⟨6,[],.int .i64 n⟩]) [0] [6] (k:=A0 (B4 ?_))))))))
 refine B7 [.tmp 6] [.int .i64 n] (k:=?_)
 exact ⟨congrArg (Value.int .i64) (by unfold K9; rw [if_neg (by rw [H0]; omega),hV]; dsimp only; rw [if_neg]; rintro (h | h); exact hok.1.1 h; have h2:=hok.2; rw [w32i (by omega) (by omega),h] at h2; cases h2),rfl⟩
 refine A5 [0,0,0,0,0] [7,8] (k:=A0 (A1 (A1 (A2 (A3 (j:=1) [0] (k:=Q2 (ch:=[]) (v:=.iface 216 (pt N)) (e:=false) true (hv:=.inr ⟨⟨_,_,rfl⟩,rfl⟩) (k:=A5 [0,1,1,2,0,1,1,2,0,1,1,1,1,2] [7,39] (k:=A0 ?_))))))))
 refine B9 kr (A1 (C3 (E':=[⟨6,[],.int .i64 (-1)⟩]) [0] [6] (k:=A0 (B4 (A4 (B7 [.tmp 6] [.int .i64 (-1)] (k:=?_)))))))
 exact ⟨congrArg (Value.int .i64) (by unfold K9; rw [if_neg (by rw [H0]; omega),hV]),rfl⟩
theorem reference_ (s:ByteArray) (hs:s.size≤1000000000000) (W0:World) (H:List Grp) (hW:V4 W0):Tri Tryz.prog 108 #[.string s] W0 H (fun v H'=>v=.int .i64 (refM s.data.toList)∧H'=H):=by
 refine D5 44 Tryz.func108 ?_
 refine A1 (C3 (E':=[⟨0,[],.string s⟩]) [0] [0] (k:=A0 (A1 (A1 (C3 (E':=[⟨0,[],.string s⟩,⟨9,[],.string s⟩]) [0] [0,9] (k:=A0 (B3 (A1 ?_))))))))
 refine G_p [0,0] [0,9,10] (k:=A0 (B1 (b:=s.toList==(mB #[97,109,112]).toList) kr (fun hc1=>?_) (fun hc1=>?_)))
 have e0:=(eqB _ _).1 hc1
 refine A1 (C3 (E':=[⟨2,[],.int .i64 38⟩]) [0] [2] (k:=A0 (B4 (B0 (A4 (B7 [.tmp 2] [.int .i64 38] (k:=?_)))))))
 exact ⟨congrArg (Value.int .i64) (by unfold refM; rw [if_pos e0]),rfl⟩
 ·
  have e0:=(eqBf _ _).1 hc1
  refine A1 (G_p [0,0] [0,9,12] (k:=A0 (B1 (b:=s.toList==(mB #[108,116]).toList) kr (fun hc2=>?_) (fun hc2=>?_))))
  have e1:=(eqB _ _).1 hc2
  refine A1 (C3 (E':=[⟨2,[],.int .i64 60⟩]) [0] [2] (k:=A0 (B4 (B0 (A4 (B7 [.tmp 2] [.int .i64 60] (k:=?_)))))))
  exact ⟨congrArg (Value.int .i64) (by unfold refM; rw [if_neg e0,if_pos e1]),rfl⟩
  ·
   have e1:=(eqBf _ _).1 hc2
   refine A1 (G_p [0,0] [0,9,14] (k:=A0 (B1 (b:=s.toList==(mB #[103,116]).toList) kr (fun hc3=>?_) (fun hc3=>?_))))
   have e2:=(eqB _ _).1 hc3
   refine A1 (C3 (E':=[⟨2,[],.int .i64 62⟩]) [0] [2] (k:=A0 (B4 (B0 (A4 (B7 [.tmp 2] [.int .i64 62] (k:=?_)))))))
   exact ⟨congrArg (Value.int .i64) (by unfold refM; rw [if_neg e0,if_neg e1,if_pos e2]),rfl⟩
   ·
    have e2:=(eqBf _ _).1 hc3
    refine A1 (G_p [0,0] [0,9,16] (k:=A0 (B1 (b:=s.toList==(mB #[113,117,111,116]).toList) kr (fun hc4=>?_) (fun hc4=>?_))))
    have e3:=(eqB _ _).1 hc4
    refine A1 (C3 (E':=[⟨2,[],.int .i64 34⟩]) [0] [2] (k:=A0 (B4 (B0 (A4 (B7 [.tmp 2] [.int .i64 34] (k:=?_)))))))
    exact ⟨congrArg (Value.int .i64) (by unfold refM; rw [if_neg e0,if_neg e1,if_neg e2,if_pos e3]),rfl⟩
    ·
     have e3:=(eqBf _ _).1 hc4
     refine A1 (G_p [0,0] [0,18] (k:=A0 (B1 (b:=s.toList==(mB #[97,112,111,115]).toList) kr (fun hc5=>?_) (fun hc5=>?_))))
     have e4:=(eqB _ _).1 hc5
     refine A1 (C3 (E':=[⟨2,[],.int .i64 39⟩]) [0] [2] (k:=A0 (B4 (B0 (A4 (B7 [.tmp 2] [.int .i64 39] (k:=?_)))))))
     exact ⟨congrArg (Value.int .i64) (by unfold refM; rw [if_neg e0,if_neg e1,if_neg e2,if_neg e3,if_pos e4]),rfl⟩
     ·
      have e4:=(eqBf _ _).1 hc5
      refine A7 (B8 (A0 (A1 (A1 (A2 (A3 (j:=1) [0] (k:=D9 Tryz.func63 (cutP_ s (mB #[35,120]) (by omega) (by first | omega | decide) _ _) ?_)))))))
      rintro _ _ ⟨rfl,rfl⟩
      cases hsp:H9 s (mB #[35,120])
      all_goals simp only [Bool.false_eq_true,if_false,if_true]
      ·
       have hp44:¬ s.data.toList.take 2=[35,120]:=(J4 _ _).1 hsp
       refine A5 [0,0,0,0,0] [0,3,4] (k:=A0 (A1 (G_p [0] [0,3,25] (k:=A0 (C5 kr (A7 (A0 (A1 ?_))))))))
       refine A1 (A2 (A3 (j:=1) [0] (k:=D9 Tryz.func63 (cutP_ s (mB #[35,88]) (by omega) (by first | omega | decide) _ _) ?_)))
       rintro _ _ ⟨rfl,rfl⟩
       cases hsp:H9 s (mB #[35,88])
       all_goals simp only [Bool.false_eq_true,if_false,if_true]
       ·
        have hp47:¬ s.data.toList.take 2=[35,88]:=(J4 _ _).1 hsp
        refine A5 [0,0,0,0,0] [0,5,6] (k:=A0 (A1 (G_p [0] [0,5,33] (k:=A0 (C5 kr (A7 (A0 (A1 ?_))))))))
        refine A1 (A2 (A3 (j:=1) [0] (k:=D9 Tryz.func63 (cutP_ s (mB #[35]) (by omega) (by first | omega | decide) _ _) ?_)))
        rintro _ _ ⟨rfl,rfl⟩
        cases hsp:H9 s (mB #[35])
        all_goals simp only [Bool.false_eq_true,if_false,if_true]
        have hp50:¬ s.data.toList.take 1=[35]:=(J4 _ _).1 hsp
        refine A5 [0,0,0,0,0] [7,8] (k:=A0 (A1 (G_p [0] [7,41] (k:=A0 (C5 kr (A7 (A0 (A1 ?_))))))))
        refine C3 (E':=[⟨2,[],.int .i64 (-1)⟩]) [0] [2] (k:=A0 (B4 (B7 [.tmp 2] [.int .i64 (-1)] (k:=?_))))
        exact ⟨congrArg (Value.int .i64) (by unfold refM; rw [if_neg e0,if_neg e1,if_neg e2,if_neg e3,if_neg e4,if_neg hp44,if_neg hp47,if_neg hp50]),rfl⟩
        have hp50:s.data.toList.take 1=[35]:=(J7 _ _).1 hsp
        refine A5 [0,0,0,0,0] [7,8] (k:=A0 (A1 (G_p [0] [7,41] (k:=A0 (B9 kr (A1 (A2 (A3 (j:=1) [0] (k:=?_)))))))))
        refine D9 Tryz.func123 (number10_ (s.extract (mB #[35]).size s.size) (by first | omega | (rw [ByteArray.size_extract]; omega)) _ _ hW) ?_
        rintro _ _ ⟨rfl,rfl⟩
        refine A5 [0] [2] (k:=A0 (B4 (A4 (B7 [.tmp 2] [.int .i64 (K9 (s.extract (mB #[35]).size s.size).data.toList 10 7)] (k:=?_)))))
        exact ⟨congrArg (Value.int .i64) (by unfold refM; rw [if_neg e0,if_neg e1,if_neg e2,if_neg e3,if_neg e4,if_neg hp44,if_neg hp47,if_pos hp50,N3]; rfl),rfl⟩
       have hp47:s.data.toList.take 2=[35,88]:=(J7 _ _).1 hsp
       refine A5 [0,0,0,0,0] [0,5,6] (k:=A0 (A1 (G_p [0] [0,5,33] (k:=A0 (B9 kr (A1 (A2 (A3 (j:=1) [0] (k:=?_)))))))))
       refine D9 Tryz.func123 (number16_ (s.extract (mB #[35,88]).size s.size) (by first | omega | (rw [ByteArray.size_extract]; omega)) _ _ hW) ?_
       rintro _ _ ⟨rfl,rfl⟩
       refine A5 [0] [2] (k:=A0 (B4 (A4 (B7 [.tmp 2] [.int .i64 (K9 (s.extract (mB #[35,88]).size s.size).data.toList 16 6)] (k:=?_)))))
       exact ⟨congrArg (Value.int .i64) (by unfold refM; rw [if_neg e0,if_neg e1,if_neg e2,if_neg e3,if_neg e4,if_neg hp44,if_pos hp47,N3]; rfl),rfl⟩
      have hp44:s.data.toList.take 2=[35,120]:=(J7 _ _).1 hsp
      refine A5 [0,0,0,0,0] [0,3,4] (k:=A0 (A1 (G_p [0] [0,3,25] (k:=A0 (B9 kr (A1 (A2 (A3 (j:=1) [0] (k:=?_)))))))))
      refine D9 Tryz.func123 (number16_ (s.extract (mB #[35,120]).size s.size) (by first | omega | (rw [ByteArray.size_extract]; omega)) _ _ hW) ?_
      rintro _ _ ⟨rfl,rfl⟩
      refine A5 [0] [2] (k:=A0 (B4 (A4 (B7 [.tmp 2] [.int .i64 (K9 (s.extract (mB #[35,120]).size s.size).data.toList 16 6)] (k:=?_)))))
      exact ⟨congrArg (Value.int .i64) (by unfold refM; rw [if_neg e0,if_neg e1,if_neg e2,if_neg e3,if_neg e4,if_pos hp44,N3]; rfl),rfl⟩
theorem unhtml_ (s:ByteArray) (hs:s.size≤10000000000) (W0:World) (H:List Grp) (hW:V4 W0):Tri Tryz.prog 91 #[.string s] W0 H (fun v H'=>v=.string ⟨(unL s.data.toList).toArray⟩∧H'=H):=by
 refine D5 41 Tryz.func91 ?_
 refine A1 (C3 (E':=[⟨0,[],.string s⟩]) [0] [0] (k:=A0 (A1 (A2 (J0 (.agg #[.pointer none,.slice none 0 0]) (fun b1=>GL_heap rfl (H':=([(b1,.cells #[.pointer none,.slice none 0 0] 64 (0,0))]::[]::H)) (fun w h=>h.flat (List.Perm.refl _)) (C0 (E':=[⟨0,[],.string s⟩,⟨3,[],pt b1⟩]) [] [0,3] (k:=A0 ?_))))))))
 refine B3 (I5 (EI:=(fun ξ:Value × Value × Grp × ByteArray × ByteArray=>[⟨0,[],.string ξ.2.2.2.2⟩,⟨3,[],pt b1⟩])) (HI:=(fun ξ:Value × Value × Grp × ByteArray × ByteArray=>([(b1,.cells #[ξ.1,ξ.2.1] 64 (0,0))]::ξ.2.2.1::H))) (Φ:=(fun ξ:Value × Value × Grp × ByteArray × ByteArray=>(Bld b1 ξ.1)∧(BOwn ξ.2.1 ξ.2.2.1 ξ.2.2.2.1)∧(ξ.2.2.2.2.size≤s.size)∧(ξ.2.2.2.1.size+4 * ξ.2.2.2.2.size≤4 * s.size)∧(ξ.2.2.2.1.data.toList++unL ξ.2.2.2.2.data.toList=unL s.data.toList))) (μ:=(fun ξ:Value × Value × Grp × ByteArray × ByteArray=>ξ.2.2.2.2.size)) (s0:=(.pointer none,.slice none 0 0,[],.empty,s)) [0,3] kr rfl ⟨bld0,bown0,(Nat.le_refl _),(by show 0+4 * s.size≤4 * s.size; omega),(by rfl)⟩ ?_)
 rintro ⟨p,v,g,t,sv⟩ ⟨hbp,hB,hz,hts,hT⟩
 dsimp only at hbp hB hz hts hT
 refine B3 (A1 (A2 (A3 (j:=1) [0] (k:=D9 Tryz.func90 (idx_ sv 38 _ _) ?_))))
 rintro _ _ ⟨rfl,rfl⟩
 rcases bIdx_spec sv (c:=38) (by decide) (by decide) with ⟨k,hk,hik,hbk,hnk⟩ | ⟨hik,hnk⟩
 all_goals rw [hik]
 ·
  have hz1:(sv.extract k sv.size).size=sv.size - k:=sz_drop sv k
  have hz0:(sv.extract 0 k).size=k:=by rw [ByteArray.size_extract]; omega
  have hz4:((sv.extract k sv.size).extract 1 (sv.extract k sv.size).size).size=sv.size - k - 1:=by rw [sz_drop,hz1]
  refine A5 [0] [0,3,4] (k:=A0 (A1 (A1 (G_p [0,0] [0,3,4,10] (k:=A0 (B1 (b:=decide (((k:Nat):Int)<0)) kr (fun hc2=>?_) (fun hc2=>?_)))))))
  simp only [decide_eq_true_eq] at hc2; omega
  ·
   skip
   refine A7 (A0 (A1 (A2 (A3 (j:=2) [0,0] (k:=M6 sv 0 ((k:Nat):Int) (by omega) (D9 Tryz.func53 (O5 b1 (p) (v) g t (sv.extract 0 k) hbp hB (by (try simp only [I8]); omega) _ _) ?_))))))
   rintro _ _ ⟨v3,g4,hB5,rfl⟩
   refine A5 [] [0,3,4] (k:=A0 (A1 (A2 (A3 (j:=2) [0,0] (k:=M6 sv ((k:Nat):Int) (sv.size:Int) (by omega) (A5 [0] [0,3] (k:=A0 (A1 ?_))))))))
   refine G_p [0] [0,3,5] (k:=A0 (A1 (A2 (A3 (j:=1) [0] (k:=D9 Tryz.func90 (idx_ (sv.extract k sv.size) 59 _ _) ?_)))))
   rintro _ _ ⟨rfl,rfl⟩
   rcases bIdx_spec (sv.extract k sv.size) (c:=59) (by decide) (by decide) with ⟨m,hm,him,hbm,hnm⟩ | ⟨him,hnm⟩
   all_goals rw [him]
   have hz2:((sv.extract k sv.size).extract (m+1) (sv.extract k sv.size).size).size=sv.size - k - (m+1):=by rw [sz_drop,hz1]
   have hz3:((sv.extract k sv.size).extract 1 m).size=m - 1:=by rw [ByteArray.size_extract]; omega
   refine A5 [0] [0,3,5,6] (k:=A0 (A1 (A1 (G_p [0,0] [0,3,5,6,24] (k:=A0 (B1 (b:=decide (((m:Nat):Int) > 0)) kr (fun hc6=>?_) (fun hc6=>?_)))))))
   have hm0:=m_pos hk hbk hbm
   refine A2 (A3 (j:=2) [0,0] (k:=M6 (sv.extract k sv.size) 1 ((m:Nat):Int) (by omega) (D9 Tryz.func108 (reference_ ((sv.extract k sv.size).extract 1 m) (by omega) _ _ hW) ?_)))
   rintro _ _ ⟨rfl,rfl⟩
   refine A5 [0] [0,3,5,6] (k:=A0 (A1 (A1 (G_p [0,0] [0,3,5,6,30] (k:=A0 (B1 (b:=decide ((refM ((sv.extract k sv.size).extract 1 m).data.toList)<0)) kr (fun hc7=>?_) (fun hc7=>?_)))))))
   simp only [decide_eq_true_eq] at hc7
   refine A1 (A2 (D9 Tryz.func56 (writeByteC b1 (pt b1) (v3) g4 (t++(sv.extract 0 k)) (Nat.toUInt8 38) bld1 hB5 (by (try simp only [I8]); omega) _ _) ?_))
   rintro _ _ ⟨v8,g9,hB10,rfl⟩
   refine A5 [] [0,3] (k:=A0 (A1 (A2 (A3 (j:=1) [0] (k:=M6 (sv.extract k sv.size) 1 ((sv.extract k sv.size).size:Int) (by omega) (A5 [0] [0,3] (k:=A0 (E7 ?_))))))))
   refine A6 (B6 (D2 (s':=(pt b1,v8,g9,((t++(sv.extract 0 k))++⟨#[Nat.toUInt8 38]⟩),(sv.extract k sv.size).extract 1 (sv.extract k sv.size).size)) [0,3] kr rfl ⟨bld1,hB10,(by dsimp only; omega),(by dsimp only; simp only [I8,sz38]; omega),(by dsimp only; rw [← hT,(unB hk hbk hnk hm hbm hnm hm0).1 (by omega),M7,M7,ext_take,lit38]; simp only [List.append_assoc,List.cons_append,List.nil_append])⟩ (by dsimp only; omega)))
   simp only [decide_eq_false_iff_not] at hc7
   have hri:=refM_isR (t:=((sv.extract k sv.size).extract 1 m).data.toList) (by omega)
   unfold isR at hri
   refine A7 (A0 (A1 (A2 (A3 (j:=2) [0,0] (k:=E3 35 (x:=.int .i32 (IntKind.wrap .i32 (refM ((sv.extract k sv.size).extract 1 m).data.toList))) (y:=.int .i32 (refM ((sv.extract k sv.size).extract 1 m).data.toList)) (by rw [w32i (by omega) (by omega)]) (D9 Tryz.func59 (writeRune b1 (pt b1) (v3) g4 (t++(sv.extract 0 k)) (refM ((sv.extract k sv.size).extract 1 m).data.toList) bld1 hB5 (refM_isR (by omega)) (by (try simp only [I8]); omega) _ _) ?_))))))
   rintro _ _ ⟨v11,g12,hB13,rfl⟩
   refine A5 [] [0,3,6] (k:=A0 (A2 (A3 (j:=3) [0,0,0] (k:=D1 39 (((m:Nat):Int)+1) (by omega) (by omega) kr (M6 (sv.extract k sv.size) (((m:Nat):Int)+1) ((sv.extract k sv.size).size:Int) (by omega) (E3 40 (x:=.string ((sv.extract k sv.size).extract (Int.toNat (((m:Nat):Int)+1)) (sv.extract k sv.size).size)) (y:=.string ((sv.extract k sv.size).extract (m+1) (sv.extract k sv.size).size)) (by rw [toNat1]) (A5 [0] [0,3] (k:=B8 ?_))))))))
   refine D2 (s':=(pt b1,v11,g12,((t++(sv.extract 0 k))++encB (refM ((sv.extract k sv.size).extract 1 m).data.toList)),(sv.extract k sv.size).extract (m+1) (sv.extract k sv.size).size)) [0,3] kr rfl ⟨bld1,hB13,(by dsimp only; omega),(by dsimp only; have he:=encB_size (refM ((sv.extract k sv.size).extract 1 m).data.toList); simp only [I8]; omega),(by dsimp only; rw [← hT,(unB hk hbk hnk hm hbm hnm hm0).2 (by omega),M7,M7,T1,ext_take]; simp only [List.append_assoc])⟩ (by dsimp only; omega)
   exact absurd (m_pos hk hbk hbm) (by simp only [gt_iff_lt,decide_eq_false_iff_not] at hc6; omega)
   refine A5 [0] [0,3,5,6] (k:=A0 (A1 (A1 (G_p [0,0] [0,3,5,6,24] (k:=A0 (C5 kr (A7 (A0 ?_))))))))
   refine A1 (A1 (G_p [0,0] [0,3,5,6,30] (k:=A0 (B9 kr (A1 (A2 (D9 Tryz.func56 (writeByteC b1 (pt b1) (v3) g4 (t++(sv.extract 0 k)) (Nat.toUInt8 38) bld1 hB5 (by (try simp only [I8]); omega) _ _) ?_)))))))
   rintro _ _ ⟨v15,g16,hB17,rfl⟩
   refine A5 [] [0,3] (k:=A0 (A1 (A2 (A3 (j:=1) [0] (k:=M6 (sv.extract k sv.size) 1 ((sv.extract k sv.size).size:Int) (by omega) (A5 [0] [0,3] (k:=A0 (E7 ?_))))))))
   refine A6 (B6 (D2 (s':=(pt b1,v15,g16,((t++(sv.extract 0 k))++⟨#[Nat.toUInt8 38]⟩),(sv.extract k sv.size).extract 1 (sv.extract k sv.size).size)) [0,3] kr rfl ⟨bld1,hB17,(by dsimp only; omega),(by dsimp only; simp only [I8,sz38]; omega),(by dsimp only; rw [← hT,unA hk hbk hnk hnm,M7,M7,ext_take,lit38]; simp only [List.append_assoc,List.cons_append,List.nil_append])⟩ (by dsimp only; omega)))
 refine A5 [0] [0,3,4] (k:=A0 (A1 (A1 (G_p [0,0] [0,3,4,10] (k:=A0 (B9 kr (A1 (A2 ?_))))))))
 refine A3 (j:=1) [0] (k:=D9 Tryz.func53 (O5 b1 (p) (v) g t sv hbp hB (by (try simp only [I8]); omega) _ _) ?_)
 rintro _ _ ⟨v18,g19,hB20,rfl⟩
 refine C0 (E':=[⟨3,[],pt b1⟩]) [] [3] (k:=A0 (A1 (A2 (D9 Tryz.func27 (A0g b1 (pt b1) (v18) g19 (t++sv) hB20 (by (try simp only [I8]); omega) _ _) ?_))))
 rintro _ _ ⟨rfl,rfl⟩
 refine C0 (E':=[⟨2,[],.string (t++sv)⟩]) [0] [2] (k:=A0 (B4 (A4 (B0 (A4 (B0 (F8 1 [] (B7 [.tmp 2] [.string (t++sv)] (k:=?_)))))))))
 exact ⟨congrArg Value.string (ba_eq (by rw [← hT,unC hnk,M7])),rfl⟩
end Go.Proofs.YtcgmnagcgkhogaaGreatDoor
namespace Go.Xml
open Go.Esc Go.Json
theorem A0c {c:UInt8}:∀ {l:List UInt8} {i:Nat},idxL [c] l=some i→l=l.take i++c::l.drop (i+1)∧(∀ b∈l.take i,b≠c)∧i<l.length
  | [],i,h=>by cases h
  | b::l,i,h=>by
    rw [idxL] at h
    by_cases hb:b=c
    subst hb
    rw [if_pos (by simp [List.isPrefixOf])] at h
    injection h with h; subst h
    exact ⟨rfl,fun _ h=>absurd h List.not_mem_nil,Nat.succ_pos _⟩
    rw [if_neg (by simpa [List.isPrefixOf] using fun e=>hb e.symm)] at h
    cases hi:idxL [c] l with
    | none=>rw [hi] at h; cases h
    | some j =>
      rw [hi] at h
      injection h with h; subst h
      obtain ⟨h1,h2,h3⟩:=A0c hi
      refine ⟨?_,fun x hx=>?_,by simpa using h3⟩
      show b::l=b::(l.take j++c::l.drop (j+1)); rw [← h1]
      rcases List.mem_cons.1 (show x∈b::l.take j from hx) with rfl | hx
      exact hb
      exact h2 x hx
theorem idx_no {c:UInt8} {l:List UInt8} (h:idxL [c] l=none):∀ b∈l,b≠c:=by
 intro b hb e
 have:=idx_mem c l
 rw [h] at this
 subst e
 simp [hb] at this
theorem piecesC_keep (c:UInt8):∀ (a t:List UInt8),(∀ b∈a,b≠c)→C8 c (a++t)=(a++(C8 c t).1,(C8 c t).2)
  | [],t,_=>rfl
  | b::a,t,h=>by
    rw [List.cons_append,C8,piecesC_keep c a t (fun x hx=>h x (List.mem_cons_of_mem _ hx))]
    dsimp only
    rw [if_neg (h b List.mem_cons_self)]; rfl
theorem pieces_sign (c:UInt8) (t:List UInt8):C8 c (c::t)=([],(C8 c t).1::(C8 c t).2):=by
 rw [C8]; (try dsimp only); rw [if_pos rfl]
theorem split_pieces (c:UInt8):∀ (n:Nat) (s:List UInt8),s.length≤n→Lib.splitK [c] 0 (Lib.count s [c]) s=(C8 c s).1::(C8 c s).2∧Lib.count s [c]=(C8 c s).2.length:=by
  intro n
  induction n with
  | zero =>
    intro s h
    have:s=[]:=List.eq_nil_of_length_eq_zero (by omega)
    subst this
    rw [Lib.count_miss (by rw [idx_lib]; rfl)]
    exact ⟨rfl,rfl⟩
  | succ n ih =>
    intro s h
    have hx:=idx_lib s [c]
    cases hi:idxL [c] s with
    | none =>
      rw [hi] at hx
      rw [Lib.count_miss hx]
      have h1:=piecesC_keep c s [] (idx_no hi)
      rw [List.append_nil] at h1
      have h2:C8 c s=(s,[]):=by rw [h1]; show (s++[],[])=_; rw [List.append_nil]
      rw [h2]; exact ⟨rfl,rfl⟩
    | some i =>
      rw [hi] at hx
      dsimp only at hx
      obtain ⟨h1,h2,h3⟩:=A0c hi
      obtain ⟨h4,h5⟩:=ih (s.drop (i+1)) (by clear hx; rw [List.length_drop]; have:=Nat.zero_le i; omega)
      have h6:C8 c s=(s.take i,(C8 c (s.drop (i+1))).1::(C8 c (s.drop (i+1))).2):=by
        conv=>lhs; rw [h1]
        rw [piecesC_keep c _ _ h2,pieces_sign,List.append_nil]
      have h7:=Lib.count_hit (s:=s) (sub:=[c]) (by simp) hx
      have h8:([c]:List UInt8).length=1:=rfl
      rw [h8] at h7
      rw [h7,h6]
      dsimp only
      refine ⟨?_,by rw [h5,List.length_cons]; omega⟩
      rw [Nat.add_comm 1,Lib.splitK,if_neg (by rw [hx,beq_iff_eq]; have:=Int.natCast_nonneg i; omega),hx,Int.toNat_natCast,Nat.add_zero,h8,h4]
theorem bidx_none {p:List UInt8} (h:idxL [59] p=none):Go.Sw.bIdx (bk p) 59=-1:=by
 refine Go.Sw.bIdx_none (by decide) (by decide) (fun j hj he=>?_)
 rw [byteJ] at he
 rw [D0] at hj
 have hm:p.getD j 0∈p:=by rw [show p.getD j 0=p[j] by simp [List.getD,hj]]; exact List.getElem_mem hj
 exact idx_no h _ hm (UInt8.toNat_inj.1 (by show (p.getD j 0).toNat=59; omega))
theorem bidx_some {p:List UInt8} {i:Nat} (h:idxL [59] p=some i):Go.Sw.bIdx (bk p) 59=i:=by
 obtain ⟨h1,h2,h3⟩:=A0c h
 refine Go.Sw.bIdx_eq (by decide) (by decide) (by rw [D0]; exact h3) ?_ (fun j hj he=>?_)
 rw [byteJ]
 have:p.getD i 0=59:=by
  conv=>lhs; rw [h1]
  simp [List.getD,List.length_take,Nat.min_eq_left (Nat.le_of_lt h3)]
 rw [this]; rfl
 rw [byteJ] at he
 have hm:p.getD j 0∈p.take i:=by
  rw [show p.getD j 0=p[j]'(by omega) by simp [List.getD,show j<p.length by omega]]
  rw [List.mem_take_iff_getElem]
  exact ⟨j,by omega,rfl⟩
 exact h2 _ hm (UInt8.toNat_inj.1 (by show (p.getD j 0).toNat=59; omega))
theorem flt_flt (e f:Int) (q:XS) (he:e≠0):F9 f (F9 e q)=F9 e q:=by
 by_cases h:q.2=0
 rw [flt_0 h]; exact flt_ne he
 rw [flt_ne h,flt_ne h]
theorem bad_none {p:List UInt8} (h:idxL [59] p=none):badX p=true:=by unfold badX; rw [h]
theorem bad_some {p:List UInt8} {i:Nat} (h:idxL [59] p=some i):badX p=(unL (38::p.take (i+1))==38::p.take (i+1)):=by unfold badX; rw [h]
def pcX (ps:List (List UInt8)) (k:Nat) (q:XS):XS:=if (ps.take k).any badX then F9 70 q else q
theorem pcX_0 (ps:List (List UInt8)) (q:XS):pcX ps 0 q=q:=by unfold pcX; rw [List.take_zero]; rfl
theorem pcX_bad {ps:List (List UInt8)} {k:Nat} {q:XS} (h:k<ps.length) (hb:badX ps[k]=true):pcX ps (k+1) q=F9 70 (pcX ps k q):=by
 unfold pcX
 rw [List.take_succ_eq_append_getElem h,List.any_append,List.any_cons,List.any_nil,hb,Bool.or_false,Bool.or_true,if_pos rfl]
 split
 rw [flt_flt _ _ _ (by decide)]
 rfl
theorem pcX_good {ps:List (List UInt8)} {k:Nat} {q:XS} (h:k<ps.length) (hb:badX ps[k]=false):pcX ps (k+1) q=pcX ps k q:=by
 unfold pcX
 rw [List.take_succ_eq_append_getElem h,List.any_append,List.any_cons,List.any_nil,hb,Bool.or_false,Bool.or_false]
theorem refs_yes {s:List UInt8} {q:XS} (h:I0 (unL (B5 s))≠unL (B5 s)):O4 s q=(unL (B5 s),F9 70 (pcX (C8 38 (B5 s)).2 (C8 38 (B5 s)).2.length q)):=by
 unfold O4 pcX; dsimp only; rw [List.take_length,if_pos h]
theorem refs_no {s:List UInt8} {q:XS} (h:I0 (unL (B5 s))=unL (B5 s)):O4 s q=(unL (B5 s),pcX (C8 38 (B5 s)).2 (C8 38 (B5 s)).2.length q):=by
 unfold O4 pcX; dsimp only; rw [List.take_length,if_neg (fun hn=>hn h)]
theorem pieces_len (c:UInt8):∀ (l:List UInt8),(C8 c l).1.length≤l.length∧(∀ p∈(C8 c l).2,p.length≤l.length)∧(C8 c l).2.length≤l.length
  | []=>⟨Nat.le_refl _,fun _ h=>absurd h List.not_mem_nil,Nat.le_refl _⟩
  | b::l=>by
    obtain ⟨h1,h2,h3⟩:=pieces_len c l
    rw [C8]; (try dsimp only)
    split
    refine ⟨Nat.zero_le _,fun p hp=>?_,by simp only [List.length_cons]; omega⟩
    rcases List.mem_cons.1 hp with rfl | hp
    rw [List.length_cons]; omega
    have:=h2 p hp; rw [List.length_cons]; omega
    refine ⟨by simp only [List.length_cons]; omega,fun p hp=>?_,by simp only [List.length_cons]; omega⟩
    have:=h2 p hp; rw [List.length_cons]; omega
end Go.Xml
namespace Go.Proofs.YtcgmnagcgkhogaaGreatDoor
open Go.Sw Go.Sha Go.Esc Go.RowKit Go.Json Go.Xml
theorem Tri_alloc {P:Program} {f:FuncId} {args:Array Value} {W0:World} {H:List Grp} {v:Nat→Value} {o:Obj} (h:∀ w,Sat W0 H w→Calls P f args w fun e w'=>e=.returned (v w.heap.size)∧w'=w.alloc o):Tri P f args W0 H (fun u H'=>∃ b,u=v b∧H'=[(b,o)]::H) :=
 fun w hs=>(h w hs).mono fun e w' ⟨he,hw⟩=>⟨_,_,he,⟨w.heap.size,rfl,rfl⟩,by subst hw; exact hs.new rfl rfl rfl rfl⟩
theorem splitW (l:List UInt8) (hl:l.length≤1000000000) (W0:World) (H:List Grp) (hX:T8 W0):Tri Tryz.prog 89 #[.string (bk l),.string (mB #[38])] W0 H (fun v H'=>∃ b,v=.slice (some ⟨b,0,none⟩) ((C8 38 l).2.length+1) ((C8 38 l).2.length+1)∧H'=[(b,.cells (strV ((C8 38 l).1::(C8 38 l).2)).toArray 9 (0,0))]::H):=by
 obtain ⟨m,h1,h2⟩:=hX.max
 have hs:=split_pieces 38 l.length l (Nat.le_refl _)
 have hc:Lib.countB (bk l) (mB #[38])=(C8 38 l).2.length:=hs.2
 have hd:(Lib.splitB (mB #[38]) 0 (Lib.countB (bk l) (mB #[38])) (bk l)).map Value.string=strV ((C8 38 l).1::(C8 38 l).2):=by
  have h3:=Lib.splitB_data (mB #[38]) 0 (Lib.countB (bk l) (mB #[38])) (bk l)
  have h4:Lib.splitK [38] 0 (Lib.countB (bk l) (mB #[38])) l=(C8 38 l).1::(C8 38 l).2:=hs.1
  rw [← h4]
  have h5:(Lib.splitB (mB #[38]) 0 (Lib.countB (bk l) (mB #[38])) (bk l)).map (·.data.toList)=Lib.splitK [38] 0 (Lib.countB (bk l) (mB #[38])) l:=h3
  rw [← h5]
  unfold strV
  rw [List.map_map]
  rfl
 refine (Tri_alloc (v:=fun b=>.slice (some ⟨b,0,none⟩) (Lib.countB (bk l) (mB #[38])+1) (Lib.countB (bk l) (mB #[38])+1)) (o:=.cells ((Lib.splitB (mB #[38]) 0 (Lib.countB (bk l) (mB #[38])) (bk l)).map Value.string).toArray 9 (0,0)) (fun w' hs=>Tryz.strings_Split (bk l) (mB #[38]) m w' (by rw [D0]; omega) (cell_base hs h1 h2) (Nat.le_refl _))).post fun v H' ⟨b,hv,hH⟩=>⟨H',⟨b,?_,?_⟩,fun _ h=>h⟩
 rw [hv,hc]
 rw [hH,hd]
theorem rd_tail {b:Nat} {v:Value} {cs:List Value} {e:TypeId} {fz:Nat × Nat}:Rd (inG [(b,.cells (v::cs).toArray e fz)]) (some ⟨b,1,none⟩) cs :=
 .inr ⟨b,1,_,_,_,rfl,List.mem_singleton.2 rfl,fun j u h=>by rw [List.getElem?_toArray,Nat.add_comm,List.getElem?_cons_succ]; exact h⟩
theorem rd_cut {b n:Nat} {v:Value} {cs:List Value} {e:TypeId} {fz:Nat × Nat} (hn:cs.length+1=n):Rd (inG [(b,.cells (v::cs).toArray e fz)]) (cutA (some ⟨b,0,none⟩) n 1 1) cs:=by
 cases cs with
 | nil=>exact .inl rfl
 | cons u t=>rw [Go.Sw.cut_some (by rw [← hn,List.length_cons]; omega)]; exact rd_tail
theorem cat38 (l:List UInt8):(mB #[38])++bk l=bk (38::l):=by
 apply ByteArray.ext; apply Array.ext'
 rw [ByteArray.data_append,Array.toList_append]; rfl
theorem xrefs_ (r:Nat) (q:XS) (s:List UInt8) (hs:s.length≤1000000) (W0:World) (H:List Grp) (hX:T8 W0):Tri Tryz.prog 66 #[pt r,.string (bk s)] W0 ([(r,.cells #[.string (bk q.1),.int .i64 q.2] 44 (0,0))]::H) (fun v H'=>v=.string (bk (O4 s q).1)∧H'=rdX r (O4 s q).2::H):=by
 have hW:V4 W0:=hX.base
 have hls:=N2 s
 obtain ⟨hp0,hp1,hp2⟩:=pieces_len 38 (B5 s)
 refine D5 50 Tryz.func66 ?_
 refine A1 (C3 (E':=[⟨0,[],pt r⟩,⟨1,[],.string (bk s)⟩]) [0] [0,1] (k:=A0 (A1 (A2 (G8 9 4 [.string (mB #[13,10]),.string (mB #[10]),.string (mB #[13]),.string (mB #[10])] (fun b1=>D9 Tryz.func70 (newRepC_ b1 _ _) ?_))))))
 rintro _ _ ⟨rb2,ra2,rcap2,rg2,rfl,hOwn2,rfl⟩
 have hRT2:Rd (inG rg2) ra2 crT:=by
  obtain ⟨a2,c2,e,_,h⟩:=hOwn2.shape
  injection e with e1; subst e1; exact h
 refine A3 (j:=3) [0] (k:=D9 Tryz.func71 (crReplace_ rb2 ra2 rcap2 rg2 hRT2 s (by omega) _ _) ?_)
 rintro _ _ ⟨rfl,rfl⟩
 refine A5 [0] [0,1] (k:=A0 (A1 (A1 (A2 (A3 (j:=1) [0] (k:=D9 Tryz.func89 (splitW (B5 s) (by omega) _ _ hX) ?_))))))
 rintro _ _ ⟨sb,rfl,rfl⟩
 refine GL_sliceL (ch:=[]) (a:=(some ⟨sb,0,none⟩)) (len:=((C8 38 (B5 s)).2.length+1)) (cap:=((C8 38 (B5 s)).2.length+1)) (e:=9) (sz:=1) (vl:=(some (.int .i64 1))) (vh:=none) (l:=1) (h:=((((C8 38 (B5 s)).2.length+1):Nat):Int)) (hb:=(by intro _; exact ⟨by omega,by omega,by omega⟩)) (k:=?_)
 obtain ⟨sa,hsa⟩:∃ sa,sa=cutA (some ⟨sb,0,none⟩) ((C8 38 (B5 s)).2.length+1) 1 1:=⟨_,rfl⟩
 have hrs:Rd (inG [(sb,.cells (strV ((C8 38 (B5 s)).1::(C8 38 (B5 s)).2)).toArray 9 (0,0))]) sa (strV (C8 38 (B5 s)).2):=by rw [hsa]; exact rd_cut (congrArg (·+1) (strV_len _))
 refine E3 14 (x:=.slice (cutA (some ⟨sb,0,none⟩) ((C8 38 (B5 s)).2.length+1) 1 1) ((Int.toNat ((((C8 38 (B5 s)).2.length+1):Nat):Int)) - 1) (((C8 38 (B5 s)).2.length+1) - 1)) (y:=.slice sa ((C8 38 (B5 s)).2.length) ((C8 38 (B5 s)).2.length)) (by rw [← hsa,Int.toNat_natCast,Nat.add_sub_cancel]) (A5 [0,0] [0,1,14,15,16] (k:=A0 (B3 (R2 (H':=([(sb,.cells (strV ((C8 38 (B5 s)).1::(C8 38 (B5 s)).2)).toArray 9 (0,0))]::[(b1,.cells #[.string (mB #[13,10]),.string (mB #[10]),.string (mB #[13]),.string (mB #[10])] 9 (0,0))]::[(r,.cells #[.string (bk (pcX (C8 38 (B5 s)).2 0 q).1),.int .i64 ((pcX (C8 38 (B5 s)).2 0 q).2)] 44 (0,0))]::H)) (fun w h=>by rw [pcX_0]; exact h) (I5 (EI:=(fun ξ:Nat=>[⟨0,[],pt r⟩,⟨1,[],.string (bk (B5 s))⟩,⟨14,[],.slice sa ((C8 38 (B5 s)).2.length) ((C8 38 (B5 s)).2.length)⟩,⟨15,[],.int .i64 (((C8 38 (B5 s)).2.length:Nat):Int)⟩,⟨16,[],.int .i64 ((ξ:Nat):Int)⟩])) (HI:=(fun ξ:Nat=>([(sb,.cells (strV ((C8 38 (B5 s)).1::(C8 38 (B5 s)).2)).toArray 9 (0,0))]::[(b1,.cells #[.string (mB #[13,10]),.string (mB #[10]),.string (mB #[13]),.string (mB #[10])] 9 (0,0))]::[(r,.cells #[.string (bk (pcX (C8 38 (B5 s)).2 ξ q).1),.int .i64 ((pcX (C8 38 (B5 s)).2 ξ q).2)] 44 (0,0))]::H))) (Φ:=(fun ξ:Nat=>(ξ≤(C8 38 (B5 s)).2.length))) (μ:=(fun ξ:Nat=>(C8 38 (B5 s)).2.length - ξ)) (s0:=(0)) [0,1,14,15,16] kr rfl (Nat.zero_le _) ?_)))))
 rintro k hkl
 refine A1 (G_p [0] [0,1,14,15,16,17] (k:=A0 (A1 (B1 (b:=decide (((k:Nat):Int)<(((C8 38 (B5 s)).2.length:Nat):Int))) kr (fun hc3=>?_) (fun hc3=>?_)))))
 have hk:k<(C8 38 (B5 s)).2.length:=by have:=hc3; simp only [decide_eq_true_eq] at this; omega
 refine A7 (A0 (A1 (B3 (A1 (A2 (E4 ((C8 38 (B5 s)).2.length) ((k:Nat):Int) 1 hrs (by exact ⟨by omega,by omega,by intro h; have:=congrArg List.length h; rw [strV_len] at this; simp only [List.length_nil] at this; omega⟩) ?_))))))
 obtain ⟨p,hp⟩:∃ p,p=(C8 38 (B5 s)).2[k]'hk:=⟨_,rfl⟩
 have hpl:p.length≤(B5 s).length:=hp1 p (by rw [hp]; exact List.getElem_mem hk)
 have hpz:=D0 p
 refine H7 (k * 1) (.string (bk p)) hrs (E0 0 rfl) (fun _=>(by rw [Nat.mul_one,hp]; exact strV_at hk)) (A5 [0] [0,1,6,14,15,16] (k:=A0 (A1 ?_)))
 rcases hI:idxL [59] p with _ | i
 have hbp:badX ((C8 38 (B5 s)).2[k]'hk)=true:=by rw [← hp]; exact bad_none hI
 refine A2 (A3 (j:=1) [0] (k:=H5 Tryz.func90 (idx_ (bk p) 59 _ _) (E3 21 (x:=.int .i64 (bIdx (bk p) 59)) (y:=.int .i64 (-1)) (by rw [bidx_none hI]) (A5 [0] [0,1,6,7,14,15,16] (k:=A0 (A1 (G_pD [0,0,0,1,1,1,1,1,1,1,1,1,1,1,1,2] [0,1,14,15,16,37] kr kr rfl kr (A0 ?_))))))))
 refine B9 kr (A2 (A3 (j:=1) [0] (k:=M1 0 [2] (D9 Tryz.func18 (O1 r (pcX (C8 38 (B5 s)).2 k q) 70 _ _) ?_))))
 rintro _ _ rfl
 refine A5 [] [0,1,14,15,16] (k:=B8 (A0 (A2 (A3 (j:=1) [0] (k:=D1 40 (((k:Nat):Int)+1) (by omega) (by omega) kr (A5 [0] [0,1,14,15,16] (k:=F8 0 [1,1,0] (R5 (H':=([(sb,.cells (strV ((C8 38 (B5 s)).1::(C8 38 (B5 s)).2)).toArray 9 (0,0))]::[(b1,.cells #[.string (mB #[13,10]),.string (mB #[10]),.string (mB #[13]),.string (mB #[10])] 9 (0,0))]::[(r,.cells #[.string (bk (F9 70 (pcX (C8 38 (B5 s)).2 k q)).1),.int .i64 ((F9 70 (pcX (C8 38 (B5 s)).2 k q)).2)] 44 (0,0))]::H)) kr ?_))))))))
 refine R5 (H':=([(sb,.cells (strV ((C8 38 (B5 s)).1::(C8 38 (B5 s)).2)).toArray 9 (0,0))]::[(b1,.cells #[.string (mB #[13,10]),.string (mB #[10]),.string (mB #[13]),.string (mB #[10])] 9 (0,0))]::[(r,.cells #[.string (bk (pcX (C8 38 (B5 s)).2 (k+1) q).1),.int .i64 ((pcX (C8 38 (B5 s)).2 (k+1) q).2)] 44 (0,0))]::H)) (by rw [pcX_bad hk hbp]) (D2 (s':=(k+1)) [0,1,14,15,16] kr kr (by omega) (by omega))
 obtain ⟨_,_,hip⟩:=A0c hI
 refine A2 (A3 (j:=1) [0] (k:=H5 Tryz.func90 (idx_ (bk p) 59 _ _) (E3 21 (x:=.int .i64 (bIdx (bk p) 59)) (y:=.int .i64 ((i:Nat):Int)) (by rw [bidx_some hI]) (A5 [0] [0,1,6,7,14,15,16] (k:=A0 (A1 (H4 (k:=A3 (j:=2) [0,0] (k:=?_)))))))))
 refine E3 23 (x:=.bool (decide (((i:Nat):Int)<0))) (y:=.bool false) (by rw [show decide (((i:Nat):Int)<0)=false from decide_eq_false (by omega)]) ?_
 have hw5:IntKind.wrap .i64 (((i:Nat):Int)+1)=((i:Nat):Int)+1:=w64 (by omega) (by omega)
 refine A3 (j:=6) [0,0,0,0] (k:=N7 27 [(24,false)] (x:=.int .i64 (IntKind.wrap .i64 (((i:Nat):Int)+1))) (y:=.int .i64 (((i:Nat):Int)+1)) (by simp only [hw5]) (X3 (ch:=[(24,false)]) (s:=(bk p)) (vl:=none) (vh:=(some (.int .i64 (((i:Nat):Int)+1)))) (l:=0) (h:=((i:Nat):Int)+1) (hb:=(fun hc=>by first | exact ⟨by omega,by omega,by omega⟩ | exact ⟨by omega,by rw [D0]; omega,by rw [D0]; omega⟩ | (show 1+(bk (p.take (i+1))).size≤_; rw [D0,List.length_take]; omega))) (k:=N7 28 [(24,false)] (x:=.string ((bk p).extract 0 (Int.toNat (((i:Nat):Int)+1)))) (y:=.string (bk (p.take (i+1)))) (by rw [show Int.toNat (((i:Nat):Int)+1)=i+1 by omega,ext_bkT]) (GL_concat (i:=7) (ch:=[(24,false)]) (s:=(mB #[38])) (u:=(bk (p.take (i+1)))) rfl rfl kr kr kr kr kr (fun hc=>by first | exact ⟨by omega,by omega,by omega⟩ | exact ⟨by omega,by rw [D0]; omega,by rw [D0]; omega⟩ | (show 1+(bk (p.take (i+1))).size≤_; rw [D0,List.length_take]; omega)) (N7 29 [(24,false)] (x:=.string ((mB #[38])++(bk (p.take (i+1))))) (y:=.string (bk (38::p.take (i+1)))) (by rw [cat38]) (P9 [(24,false)] Tryz.func91 (fun hc=>unhtml_ (bk (38::p.take (i+1))) (by rw [D0]; first | omega | (rw [List.length_cons,List.length_take]; omega) | (have:=un_len (B5 s); omega)) _ _ hW) ?_))))))
 have hw6:IntKind.wrap .i64 (((i:Nat):Int)+1)=((i:Nat):Int)+1:=w64 (by omega) (by omega)
 refine A3 (j:=12) [0,0,0] (k:=N7 33 [(24,false)] (x:=.int .i64 (IntKind.wrap .i64 (((i:Nat):Int)+1))) (y:=.int .i64 (((i:Nat):Int)+1)) (by simp only [hw6]) (X3 (ch:=[(24,false)]) (s:=(bk p)) (vl:=none) (vh:=(some (.int .i64 (((i:Nat):Int)+1)))) (l:=0) (h:=((i:Nat):Int)+1) (hb:=(fun hc=>by first | exact ⟨by omega,by omega,by omega⟩ | exact ⟨by omega,by rw [D0]; omega,by rw [D0]; omega⟩ | (show 1+(bk (p.take (i+1))).size≤_; rw [D0,List.length_take]; omega))) (k:=N7 34 [(24,false)] (x:=.string ((bk p).extract 0 (Int.toNat (((i:Nat):Int)+1)))) (y:=.string (bk (p.take (i+1)))) (by rw [show Int.toNat (((i:Nat):Int)+1)=i+1 by omega,ext_bkT]) (GL_concat (i:=13) (ch:=[(24,false)]) (s:=(mB #[38])) (u:=(bk (p.take (i+1)))) rfl rfl kr kr kr kr kr (fun hc=>by first | exact ⟨by omega,by omega,by omega⟩ | exact ⟨by omega,by rw [D0]; omega,by rw [D0]; omega⟩ | (show 1+(bk (p.take (i+1))).size≤_; rw [D0,List.length_take]; omega)) (N7 35 [(24,false)] (x:=.string ((mB #[38])++(bk (p.take (i+1))))) (y:=.string (bk (38::p.take (i+1)))) (by rw [cat38]) (A5 [0,3] [0,1,14,15,16,37] (k:=A0 (B1 (b:=(bk (unL (38::p.take (i+1)))).toList==(bk (38::p.take (i+1))).toList) kr (fun hc7=>?_) (fun hc7=>?_)))))))))
 have hbp:badX ((C8 38 (B5 s)).2[k]'hk)=true:=by rw [← hp,bad_some hI]; exact beq_iff_eq.2 ((eqB _ _).1 hc7)
 refine A2 (A3 (j:=1) [0] (k:=M1 0 [2] (D9 Tryz.func18 (O1 r (pcX (C8 38 (B5 s)).2 k q) 70 _ _) ?_)))
 rintro _ _ rfl
 refine A5 [] [0,1,14,15,16] (k:=B8 (A0 (A2 (A3 (j:=1) [0] (k:=D1 40 (((k:Nat):Int)+1) (by omega) (by omega) kr (A5 [0] [0,1,14,15,16] (k:=F8 0 [1,1,0] (R5 (H':=([(sb,.cells (strV ((C8 38 (B5 s)).1::(C8 38 (B5 s)).2)).toArray 9 (0,0))]::[(b1,.cells #[.string (mB #[13,10]),.string (mB #[10]),.string (mB #[13]),.string (mB #[10])] 9 (0,0))]::[(r,.cells #[.string (bk (F9 70 (pcX (C8 38 (B5 s)).2 k q)).1),.int .i64 ((F9 70 (pcX (C8 38 (B5 s)).2 k q)).2)] 44 (0,0))]::H)) kr ?_))))))))
 refine R5 (H':=([(sb,.cells (strV ((C8 38 (B5 s)).1::(C8 38 (B5 s)).2)).toArray 9 (0,0))]::[(b1,.cells #[.string (mB #[13,10]),.string (mB #[10]),.string (mB #[13]),.string (mB #[10])] 9 (0,0))]::[(r,.cells #[.string (bk (pcX (C8 38 (B5 s)).2 (k+1) q).1),.int .i64 ((pcX (C8 38 (B5 s)).2 (k+1) q).2)] 44 (0,0))]::H)) (by rw [pcX_bad hk hbp]) (D2 (s':=(k+1)) [0,1,14,15,16] kr kr (by omega) (by omega))
 have hbp:badX ((C8 38 (B5 s)).2[k]'hk)=false:=by rw [← hp,bad_some hI]; exact beq_eq_false_iff_ne.2 ((eqBf _ _).1 hc7)
 refine A7 (B8 (A0 (A2 (A3 (j:=1) [0] (k:=D1 40 (((k:Nat):Int)+1) (by omega) (by omega) kr (A5 [0] [0,1,14,15,16] (k:=R5 (H':=([(sb,.cells (strV ((C8 38 (B5 s)).1::(C8 38 (B5 s)).2)).toArray 9 (0,0))]::[(b1,.cells #[.string (mB #[13,10]),.string (mB #[10]),.string (mB #[13]),.string (mB #[10])] 9 (0,0))]::[(r,.cells #[.string (bk (pcX (C8 38 (B5 s)).2 (k+1) q).1),.int .i64 ((pcX (C8 38 (B5 s)).2 (k+1) q).2)] 44 (0,0))]::H)) (by rw [pcX_good hk hbp]) (D2 (s':=(k+1)) [0,1,14,15,16] kr rfl (by omega) (by omega)))))))))
 have hk:k=(C8 38 (B5 s)).2.length:=by have:=hc3; simp only [decide_eq_false_iff_not] at this; omega
 refine E7 (A6 (A6 (B6 (A0 (A1 (A2 (A3 (j:=1) [0] (k:=H5 Tryz.func91 (unhtml_ (bk (B5 s)) (by rw [D0]; first | omega | (rw [List.length_cons,List.length_take]; omega) | (have:=un_len (B5 s); omega)) _ _ hW) ?_))))))))
 refine A5 [0] [0,1] (k:=A0 (A1 (A1 (A2 (A3 (j:=1) [0] (k:=H5 Tryz.func14 (plain_ (bk (unL (B5 s))) (by rw [D0]; first | omega | (rw [List.length_cons,List.length_take]; omega) | (have:=un_len (B5 s); omega)) _ _) (A5 [0,0] [0,1,46] (k:=A0 ?_))))))))
 refine B1 (b:=!((bk (I0 (unL (B5 s)))).toList==(bk (unL (B5 s))).toList)) kr (fun hc10=>?_) (fun hc10=>?_)
 have hp9:I0 (unL (B5 s))≠unL (B5 s):=(eqBf _ _).1 (by simpa only [Bool.not_eq_true'] using hc10)
 refine A2 (A3 (j:=1) [0] (k:=M1 0 [2] (D9 Tryz.func18 (O1 r (pcX (C8 38 (B5 s)).2 k q) 70 _ _) ?_)))
 rintro _ _ rfl
 refine C0 (E':=[⟨1,[],.string (bk (unL (B5 s)))⟩]) [] [1] (k:=A0 (A1 (C3 (E':=[⟨4,[],.string (bk (unL (B5 s)))⟩]) [0,0] [4] (k:=A0 (B4 (F8 2 [0] (B7 [.tmp 4] [.string (bk (unL (B5 s)))] (k:=?_))))))))
 exact ⟨by rw [refs_yes hp9]; try rfl,by rw [refs_yes hp9,← hk]; try rfl⟩
 have hp9:I0 (unL (B5 s))=unL (B5 s):=(eqB _ _).1 (by simpa only [Bool.not_eq_false'] using hc10)
 refine A7 (A0 (A1 (C3 (E':=[⟨4,[],.string (bk (unL (B5 s)))⟩]) [0,0] [4] (k:=A0 (B4 (F8 2 [2] (B7 [.tmp 4] [.string (bk (unL (B5 s)))] (k:=?_))))))))
 exact ⟨by rw [refs_no hp9]; try rfl,by rw [refs_no hp9,← hk]; try rfl⟩
end Go.Proofs.YtcgmnagcgkhogaaGreatDoor
namespace Go.Xml
open Go.Sw Go.Esc Go.Json
def xaC (a:XA):List Value:=[.string (bk a.space),.string (bk a.name),.string (bk a.value)]
def xaV:List XA→List Value
 | []=>[]
 | a::l=>xaC a++xaV l
theorem xaV_app:∀ (a b:List XA),xaV (a++b)=xaV a++xaV b
 | [],_=>rfl
 | x::a,b=>by rw [List.cons_append,xaV,xaV_app a b,xaV,List.append_assoc]
theorem Z8:∀ a:List XA,(xaV a).length=a.length * 3
 | []=>rfl
 | x::a=>by rw [xaV,List.length_append,Z8 a,List.length_cons]; show 3+_=_; omega
theorem xaV_at:∀ {a:List XA} {i:Nat} (h:i<a.length),((xaV a).drop (i * 3)).take 3=xaC a[i]
  | [],_,h=>absurd h (Nat.not_lt_zero _)
  | x::a,0,_=>rfl
  | x::a,i+1,h=>by
    have e:(xaV (x::a)).drop ((i+1) * 3)=(xaV a).drop (i * 3):=by
      rw [xaV,List.drop_append,List.drop_eq_nil_of_le (by show 3≤_; omega),List.nil_append]; show List.drop ((i+1) * 3 - 3) _=_; congr 1; omega
    rw [e]; exact xaV_at (a:=a) (by simpa using h)
def atC (a:AT):List Value:=[.string (bk a.q.pre),.string (bk a.q.name),.string (bk a.value),.bool a.q.has]
def atV:List AT→List Value
 | []=>[]
 | a::l=>atC a++atV l
theorem atV_app:∀ (a b:List AT),atV (a++b)=atV a++atV b
 | [],_=>rfl
 | x::a,b=>by rw [List.cons_append,atV,atV_app a b,atV,List.append_assoc]
theorem atV_len:∀ a:List AT,(atV a).length=a.length * 4
 | []=>rfl
 | x::a=>by rw [atV,List.length_append,atV_len a,List.length_cons]; show 4+_=_; omega
theorem atV_at:∀ {a:List AT} {i:Nat} (h:i<a.length),((atV a).drop (i * 4)).take 4=atC a[i]
  | [],_,h=>absurd h (Nat.not_lt_zero _)
  | x::a,0,_=>rfl
  | x::a,i+1,h=>by
    have e:(atV (x::a)).drop ((i+1) * 4)=(atV a).drop (i * 4):=by
      rw [atV,List.drop_append,List.drop_eq_nil_of_le (by show 4≤_; omega),List.nil_append]; show List.drop ((i+1) * 4 - 4) _=_; congr 1; omega
    rw [e]; exact atV_at (a:=a) (by simpa using h)
mutual
inductive XRd (S:Nat→Obj→Prop):XN→List Value→Prop
 | mk {sp nm t:List UInt8} {ats:List XA} {l:List XN} {an al:Option Addr} {cn cl:Nat} {cs:List Value}:ats.length≤cn→Rd S an (xaV ats)→Rd S al cs→XRdL S l cs→XRd S (.mk sp nm ats l t) [.string (bk sp),.string (bk nm),.slice an ats.length cn,.slice al l.length cl,.string (bk t)]
inductive XRdL (S:Nat→Obj→Prop):List XN→List Value→Prop
 | nil:XRdL S [] []
 | cons {v:XN} {l:List XN} {c cs:List Value}:XRd S v c→XRdL S l cs→XRdL S (v::l) (c++cs)
end
mutual
/-- owned: one group for all of it -/
inductive XRep (ta tn:TypeId):XN→List Value→Grp→Prop
 | mk {sp nm t:List UInt8} {ats:List XA} {l:List XN} {an al:Option Addr} {cn cl:Nat} {cs:List Value} {ga gl gs:Grp}:Own ta 3 (.slice an ats.length cn) ga ats.length (xaV ats)→Own tn 5 (.slice al l.length cl) gl l.length cs→XRepL ta tn l cs gs→XRep ta tn (.mk sp nm ats l t) [.string (bk sp),.string (bk nm),.slice an ats.length cn,.slice al l.length cl,.string (bk t)] (ga++(gl++gs))
inductive XRepL (ta tn:TypeId):List XN→List Value→Grp→Prop
 | nil:XRepL ta tn [] [] []
 | cons {v:XN} {l:List XN} {c cs:List Value} {g gs:Grp}:XRep ta tn v c g→XRepL ta tn l cs gs→XRepL ta tn (v::l) (c++cs) (g++gs)
end
theorem XRd.len {S:Nat→Obj→Prop} {v:XN} {c:List Value} (h:XRd S v c):c.length=5:=by cases h; rfl
theorem XRdL.len {S:Nat→Obj→Prop}:∀ {l:List XN} {cs:List Value},XRdL S l cs→cs.length=l.length * 5
  | [],_,h=>by cases h; rfl
  | v::l,_,h=>by
    cases h with
    | cons h1 h2=>rw [List.length_append,h1.len,h2.len,List.length_cons]; omega
theorem XRdL.at {S:Nat→Obj→Prop}:∀ {l:List XN} {cs:List Value} {i:Nat} (hi:i<l.length),XRdL S l cs→XRd S l[i] ((cs.drop (i * 5)).take 5)
  | [],_,_,hi,_=>absurd hi (Nat.not_lt_zero _)
  | v::l,_,0,_,h=>by
    cases h with
    | cons h1 h2 =>
      rw [Nat.zero_mul,List.drop_zero,List.take_append_of_le_length (by rw [h1.len]; exact Nat.le_refl _),List.take_of_length_le (by rw [h1.len]; exact Nat.le_refl _)]; exact h1
  | v::l,_,i+1,hi,h=>by
    cases h with
    | cons h1 h2 =>
      rename_i c cs
      have e:(c++cs).drop ((i+1) * 5)=cs.drop (i * 5):=by
        rw [List.drop_append,List.drop_eq_nil_of_le (by rw [h1.len]; omega),h1.len,List.nil_append,show (i+1) * 5 - 5=i * 5 by omega]
      rw [e]; exact XRdL.at (l:=l) (by simpa using hi) h2
theorem XRep.len {ta tn:TypeId} {v:XN} {c:List Value} {g:Grp} (h:XRep ta tn v c g):c.length=5:=by cases h; rfl
theorem XRepL.len {ta tn:TypeId}:∀ {l:List XN} {cs:List Value} {g:Grp},XRepL ta tn l cs g→cs.length=l.length * 5
  | [],_,_,h=>by cases h; rfl
  | v::l,_,_,h=>by
    cases h with
    | cons h1 h2=>rw [List.length_append,h1.len,XRepL.len h2,List.length_cons]; omega
theorem XRep.nul {ta tn:TypeId}:XRep ta tn J2 [.string (bk []),.string (bk []),.slice none 0 0,.slice none 0 0,.string (bk [])] []:=.mk (ats:=[]) (l:=[]) Own.nil Own.nil .nil
theorem XRep.text {ta tn:TypeId} (t:List UInt8):XRep ta tn (.mk [] [] [] [] t) [.string (bk []),.string (bk []),.slice none 0 0,.slice none 0 0,.string (bk t)] []:=.mk (ats:=[]) (l:=[]) Own.nil Own.nil .nil
theorem XRepL.snoc {ta tn:TypeId}:∀ {l:List XN} {cs:List Value} {gs:Grp} {v:XN} {c:List Value} {g:Grp},XRepL ta tn l cs gs→XRep ta tn v c g→XRepL ta tn (l++[v]) (cs++c) (gs++g)
  | [],_,_,v,c,g,h,hv=>by
    cases h
    have:=XRepL.cons hv .nil
    rw [List.append_nil,List.append_nil] at this
    exact this
  | x::l,_,_,v,c,g,h,hv=>by
    cases h with
    | cons h1 h2 =>
      rw [List.cons_append,List.append_assoc,List.append_assoc]
      exact .cons h1 (XRepL.snoc h2 hv)
theorem XRepL.last {ta tn:TypeId}:∀ {l:List XN} {cs:List Value} {gs:Grp},XRepL ta tn l cs gs→l≠[]→∃ l0 v cs0 c g0 g,l=l0++[v]∧cs=cs0++c∧gs=g0++g∧XRepL ta tn l0 cs0 g0∧XRep ta tn v c g
  | [],_,_,_,h=>absurd rfl h
  | [x],_,_,h,_=>by
    cases h with
    | cons h1 h2=>cases h2; exact ⟨[],x,[],_,[],_,rfl,by simp,by simp,.nil,h1⟩
  | x::y::l,_,_,h,_=>by
    cases h with
    | cons h1 h2 =>
      obtain ⟨l0,v,cs0,c,g0,g,e1,e2,e3,h3,h4⟩:=XRepL.last h2 (by simp)
      exact ⟨x::l0,v,_++cs0,c,_++g0,g,by rw [e1]; rfl,by rw [e2,List.append_assoc],by rw [e3,List.append_assoc],.cons h1 h3,h4⟩
mutual
theorem XRep.rd {ta tn:TypeId} {S:Nat→Obj→Prop}:∀ {v:XN} {c:List Value} {g:Grp},XRep ta tn v c g→(∀ b o,inG g b o→S b o)→XRd S v c
 | .mk _ _ _ _ _,_,_,.mk h1 h2 h3,hs=>.mk (own_cap h1) (rd_mono (E8 h1) fun b o h=>hs b o (List.mem_append_left _ h)) (rd_mono (E8 h2) fun b o h=>hs b o (List.mem_append_right _ (List.mem_append_left _ h))) (XRepL.rd h3 fun b o h=>hs b o (List.mem_append_right _ (List.mem_append_right _ h)))
theorem XRepL.rd {ta tn:TypeId} {S:Nat→Obj→Prop}:∀ {l:List XN} {cs:List Value} {g:Grp},XRepL ta tn l cs g→(∀ b o,inG g b o→S b o)→XRdL S l cs
 | [],_,_,.nil,_=>.nil
 | _::_,_,_,.cons h1 h2,hs=>.cons (XRep.rd h1 fun b o h=>hs b o (List.mem_append_left _ h)) (XRepL.rd h2 fun b o h=>hs b o (List.mem_append_right _ h))
end
theorem XRep.shape {ta tn:TypeId} {v:XN} {c:List Value} {g:Grp} (h:XRep ta tn v c g):∃ an cn al cl,c=[.string (bk v.space),.string (bk v.name),.slice an v.attrs.length cn,.slice al v.kids.length cl,.string (bk v.text)]:=by
 cases h; exact ⟨_,_,_,_,rfl⟩
theorem XRep.cells5 {ta tn:TypeId} {v:XN} {c:List Value} {g:Grp} (h:XRep ta tn v c g):∃ e0 e1 e2 e3 e4,c=[e0,e1,e2,e3,e4]∧([e0,e1,e2,e3,e4].all Value.oneCell')=true:=by
 cases h; exact ⟨_,_,_,_,_,rfl,rfl⟩
end Go.Xml
namespace Go.Xml
open Go.Esc Go.Json Go.Sw
theorem quote_1 {q:XS} (h:[34].isPrefixOf q.1=true):F2 q=I1 [34] (q.1.drop 1,q.2):=by unfold F2; rw [Q8 h]; rfl
theorem quote_2 {q:XS} (h1:¬ [34].isPrefixOf q.1=true) (h:[39].isPrefixOf q.1=true):F2 q=I1 [39] (q.1.drop 1,q.2):=by unfold F2; rw [N8 h1,Q8 h]; rfl
theorem quote_3 {q:XS} (h1:¬ [34].isPrefixOf q.1=true) (h:¬ [39].isPrefixOf q.1=true):F2 q=([],F9 70 q):=by unfold F2; rw [N8 h1,N8 h]; rfl
def eqX (q:XS):XS:=(L6 (D4 [61] (L6 (A8 q).2).2)).2
theorem eqX_le (q:XS):(eqX q).1.length≤q.1.length:=by
 unfold eqX
 have h1:=qual_le q
 have h2:=skip_le (A8 q).2
 have h3:=must_le [61] (L6 (A8 q).2).2
 have h4:=skip_le (D4 [61] (L6 (A8 q).2).2)
 omega
theorem until_v (w:List UInt8) (q:XS):(I1 w q).1.length≤q.1.length:=by
 unfold I1
 cases h:idxL w q.1 with
 | none=>exact Nat.zero_le _
 | some i=>show (q.1.take i).length≤_; rw [List.length_take]; omega
theorem quote_le (q:XS):(F2 q).1.length≤q.1.length∧(F2 q).2.1.length≤q.1.length:=by
 unfold F2
 split
 have h1:=take_le [34] q
 have h2:=until_v [34] (G7 [34] q).2
 have h3:=S4 [34] (G7 [34] q).2
 exact ⟨by omega,by omega⟩
 split
 have h1:=take_le [39] q
 have h2:=until_v [39] (G7 [39] q).2
 have h3:=S4 [39] (G7 [39] q).2
 exact ⟨by omega,by omega⟩
 exact ⟨Nat.zero_le _,Nat.le_refl _⟩
theorem attr_yes {q:XS} (h:(idxL [60] (F2 (eqX q)).1).isSome=true):Y6 q=(⟨(A8 q).1,(O4 (F2 (eqX q)).1 (F9 70 (F2 (eqX q)).2)).1⟩,(O4 (F2 (eqX q)).1 (F9 70 (F2 (eqX q)).2)).2):=by
 rw [idx_mem] at h
 have h:=of_decide_eq_true h
 unfold Y6; dsimp only
 rw [show (F2 (L6 (D4 [61] (L6 (A8 q).2).2)).2)=F2 (eqX q) from rfl,if_pos h]
theorem attr_no {q:XS} (h:(idxL [60] (F2 (eqX q)).1).isSome=false):Y6 q=(⟨(A8 q).1,(O4 (F2 (eqX q)).1 (F2 (eqX q)).2).1⟩,(O4 (F2 (eqX q)).1 (F2 (eqX q)).2).2):=by
 rw [idx_mem] at h
 have h:=of_decide_eq_false h
 unfold Y6; dsimp only
 rw [show (F2 (L6 (D4 [61] (L6 (A8 q).2).2)).2)=F2 (eqX q) from rfl,if_neg h]
theorem attrX_le (q:XS):(Y6 q).2.1.length≤q.1.length:=by
 have h1:=eqX_le q
 have h2:=(quote_le (eqX q)).2
 cases h:(idxL [60] (F2 (eqX q)).1).isSome with
 | true=>rw [attr_yes h]; dsimp only; rw [refs_len,Y5]; omega
 | false=>rw [attr_no h]; dsimp only; rw [refs_len]; omega
theorem attrs_stop {n:Nat} {acc:List AT} {q:XS} (h0:q.2=0) (h:¬ (blk q.1).length<q.1.length∨[62].isPrefixOf (blk q.1)=true∨[47,62].isPrefixOf (blk q.1)=true):F4 (n+1) acc q=(acc,(blk q.1,q.2)):=by
 rw [F4,if_neg (fun hn=>hn h0)]
 have hs:L6 q=(decide ((blk q.1).length<q.1.length),(blk q.1,q.2)):=rfl
 rw [hs]
 dsimp only
 rw [if_neg]
 rintro ⟨h1,h2,h3⟩
 rcases h with h | h | h
 exact h (of_decide_eq_true h1)
 exact h2 h
 exact h3 h
theorem attrs_go {n:Nat} {acc:List AT} {q:XS} (h0:q.2=0) (h1:(blk q.1).length<q.1.length) (h2:¬ [62].isPrefixOf (blk q.1)=true) (h3:¬ [47,62].isPrefixOf (blk q.1)=true):F4 (n+1) acc q=F4 n (acc++[(Y6 (blk q.1,q.2)).1]) (Y6 (blk q.1,q.2)).2:=by
 rw [F4,if_neg (fun hn=>hn h0)]
 have hs:L6 q=(decide ((blk q.1).length<q.1.length),(blk q.1,q.2)):=rfl
 rw [hs]
 dsimp only
 rw [if_pos ⟨decide_eq_true h1,h2,h3⟩]
theorem mgetX_put {m:SM} {c:Nat} {k p:ByteArray} {v:Value}:mget (K3 m c k v) p=if p==k then some v else mget m p:=by
  unfold mget
  have gen:∀ (m:SM) (i:Nat),(mfind p (K3 m c k v) i).map (·.2)=if p==k then some v else (mfind p m i).map (·.2):=by
    intro m
    induction m with
    | nil =>
      intro i
      show (if p==k then some (i,v) else none).map (·.2)=_
      cases p==k <;> rfl
    | cons e m ih =>
      intro i
      by_cases hk:(k==e.1)=true
      rw [K3,if_pos hk]
      have he:=baEq.1 hk
      show (if p==k then some (i,v) else mfind p m (i+1)).map (·.2)=if p==k then some v else (if p==e.1 then some (i,e.2.1) else mfind p m (i+1)).map (·.2)
      rw [← he]
      cases p==k <;> rfl
      rw [K3,if_neg hk]
      show (if p==e.1 then some (i,e.2.1) else mfind p (K3 m c k v) (i+1)).map (·.2)=if p==k then some v else (if p==e.1 then some (i,e.2.1) else mfind p m (i+1)).map (·.2)
      by_cases hp:(p==e.1)=true
      rw [if_pos hp,if_pos hp,if_neg]
      intro hpk
      exact hk (baEq.2 ((baEq.1 hpk).symm.trans (baEq.1 hp)))
      rw [if_neg hp,if_neg hp]; exact ih (i+1)
  exact gen m 0
theorem bk_inj {a b:List UInt8}:(bk a==bk b)=true ↔ a=b:=by
 rw [baEq]
 constructor
 intro h
 have:=congrArg (fun x:ByteArray=>x.data.toList) h
 exact this
 intro h; rw [h]
def SpR (m:SM) (sp:SPX):Prop:=∀ p,mget m (bk p)=(K7 sp p).map fun v=>.string (bk v)
theorem SpR.put {m:SM} {sp:SPX} (h:SpR m sp) (c:Nat) (p v:List UInt8):SpR (K3 m c (bk p) (.string (bk v))) ((p,v)::sp):=by
 intro x
 rw [mgetX_put]
 unfold K7
 rw [List.find?_cons]
 by_cases hx:x=p
 subst hx
 rw [if_pos (bk_inj.2 rfl)]
 simp
 rw [if_neg (fun hh=>hx (bk_inj.1 hh)),show ((p,v).1==x)=false from beq_eq_false_iff_ne.2 (fun e=>hx e.symm)]
 exact h x
def SeR (m:SM) (seen:List (List UInt8)):Prop:=∀ p,mget m (bk p)=if p∈seen then some (.bool true) else none
theorem SeR.nil:SeR [] []:=fun p=>by rw [if_neg List.not_mem_nil]; rfl
theorem SeR.put {m:SM} {seen:List (List UInt8)} (h:SeR m seen) (c:Nat) (p:List UInt8):SeR (K3 m c (bk p) (.bool true)) (p::seen):=by
 intro x
 rw [mgetX_put]
 by_cases hx:x=p
 subst hx; rw [if_pos (bk_inj.2 rfl),if_pos List.mem_cons_self]
 rw [if_neg (fun hh=>hx (bk_inj.1 hh)),h x]
 by_cases hm:x∈seen
 rw [if_pos hm,if_pos (List.mem_cons_of_mem _ hm)]
 rw [if_neg hm,if_neg (fun hh=>(List.mem_cons.1 hh).elim hx hm)]
theorem sp_step_no {a:AT} {r:List AT} {seen:List (List UInt8)} {sp:SPX} {q:XS} (h:M0 a=none):M9 (a::r) seen sp q=M9 r seen sp q:=by rw [M9,h]
theorem sp_step {a:AT} {r:List AT} {seen:List (List UInt8)} {sp:SPX} {q:XS} {p:List UInt8} (h:M0 a=some p):M9 (a::r) seen sp q=M9 r (p::seen) ((p,a.value)::sp) (if p∈seen∨a.q.has=true∧a.value=[] then F9 70 q else q):=by rw [M9,h]
theorem decl_own {a:AT} (h1:a.q.has=false) (h2:a.q.name=xmlns):M0 a=some []:=if_pos ⟨h1,h2⟩
theorem decl_pre {a:AT} (h1:a.q.has=true) (h2:a.q.pre=xmlns):M0 a=some a.q.name:=by
 unfold M0; rw [if_neg (fun h=>by rw [h1] at h; exact Bool.noConfusion h.1),if_pos ⟨h1,h2⟩]
theorem decl_none {a:AT} (h1:¬ (a.q.has=false∧a.q.name=xmlns)) (h2:¬ (a.q.has=true∧a.q.pre=xmlns)):M0 a=none:=by
 unfold M0; rw [if_neg h1,if_neg h2]
theorem marks_skip {a:AT} {r:List AT} {out:List XA} {sp:SPX} {q:XS} (h:(M0 a).isSome=true):O6 (a::r) out sp q=O6 r out sp q:=by rw [O6,if_pos h]
theorem marks_go {a:AT} {r:List AT} {out:List XA} {sp:SPX} {q:XS} (h:(M0 a).isSome=false):O6 (a::r) out sp q=O6 r (out++[⟨(if a.q.has then K8 a.q.pre true sp q else ([],q)).1,a.q.name,a.value⟩]) sp (if out.any (fun y=>y.space==(if a.q.has then K8 a.q.pre true sp q else ([],q)).1&&y.name==a.q.name) then F9 70 (if a.q.has then K8 a.q.pre true sp q else ([],q)).2 else (if a.q.has then K8 a.q.pre true sp q else ([],q)).2):=by
 rw [O6,if_neg (by rw [h]; exact Bool.false_ne_true)]
theorem drop_cons {α:Type} {l:List α} {k:Nat} (h:k<l.length):l.drop k=l[k]::l.drop (k+1):=List.drop_eq_getElem_cons h
theorem space_some {p v:List UInt8} {has:Bool} {sp:SPX} {q:XS} (h:K7 sp p=some v):K8 p has sp q=(v,q):=by
 unfold K8; rw [h]; dsimp only [Option.getD]; rw [if_neg (fun hh=>by cases hh.2)]
theorem space_none {p:List UInt8} {has:Bool} {sp:SPX} {q:XS} (h:K7 sp p=none) (hh:has=true):K8 p has sp q=([],F9 70 q):=by
 unfold K8; rw [h]; dsimp only [Option.getD]; rw [if_pos ⟨hh,rfl⟩]
theorem space_own {p:List UInt8} {has:Bool} {sp:SPX} {q:XS} (h:K7 sp p=none) (hh:has=false):K8 p has sp q=([],q):=by
 unfold K8; rw [h]; dsimp only [Option.getD]; rw [if_neg (fun h1=>by rw [hh] at h1; cases h1.1)]
theorem space_le (p:List UInt8) (has:Bool) (sp:SPX) (q:XS):(K8 p has sp q).2.1=q.1:=by unfold K8; dsimp only; split; rfl; rfl
theorem sp_le:∀ (ats:List AT) (seen:List (List UInt8)) (sp:SPX) (q:XS),(M9 ats seen sp q).2.1=q.1
  | [],_,_,_=>rfl
  | a::r,seen,sp,q=>by
    rw [M9]
    cases M0 a with
    | none=>exact sp_le r _ _ _
    | some p=>dsimp only; rw [sp_le r]; split; rfl; rfl
theorem any_take {α:Type} {f:α→Bool} {l:List α} {k:Nat} (h:k<l.length):(l.take (k+1)).any f=((l.take k).any f||f l[k]):=by
 rw [List.take_succ_eq_append_getElem h,List.any_append,List.any_cons,List.any_nil,Bool.or_false]
theorem any_at {α:Type} {f:α→Bool} {l:List α} {k:Nat} (h:k<l.length) (hf:f l[k]=true):l.any f=true:=List.any_eq_true.2 ⟨_,List.getElem_mem h,hf⟩
end Go.Xml
namespace Go.Proofs.YtcgmnagcgkhogaaGreatDoor
open Go.Sw Go.Sha Go.Esc Go.RowKit Go.Json Go.Xml
theorem xattrs_ (r:Nat) (q:XS) (hl:q.1.length≤1000000) (W0:World) (H:List Grp) (hX:T8 W0):Tri Tryz.prog 36 #[pt r] W0 ([(r,.cells #[.string (bk q.1),.int .i64 q.2] 44 (0,0))]::H) (fun v H'=>∃ a cap g,v=.slice a (F4 (q.1.length+1) [] q).1.length cap∧Go.Sw.Own 76 4 (.slice a (F4 (q.1.length+1) [] q).1.length cap) g (F4 (q.1.length+1) [] q).1.length (atV (F4 (q.1.length+1) [] q).1)∧H'=rdX r (F4 (q.1.length+1) [] q).2::g::H):=by
 refine D5 74 Tryz.func36 ?_
 refine A1 (C3 (E':=[⟨0,[],pt r⟩]) [0] [0] (k:=A0 (A1 (G_p [0] [0,3] (k:=A0 (A1 (B3 (R2 (H':=([(r,.cells #[.string (bk q.1),.int .i64 q.2] 44 (0,0))]::[]::H)) (fun w h=>Sat.flat h (List.Perm.refl _)) ?_))))))))
 refine I5 (EI:=(fun ξ:Nat × List AT × XS × Nat × Option Addr × Nat × Grp=>[⟨0,[],pt r⟩,⟨3,[],.slice ξ.2.2.2.2.1 ξ.2.2.2.1 ξ.2.2.2.2.2.1⟩])) (HI:=(fun ξ:Nat × List AT × XS × Nat × Option Addr × Nat × Grp=>([(r,.cells #[.string (bk ξ.2.2.1.1),.int .i64 ξ.2.2.1.2] 44 (0,0))]::ξ.2.2.2.2.2.2::H))) (Φ:=(fun ξ:Nat × List AT × XS × Nat × Option Addr × Nat × Grp=>(F4 (q.1.length+1) [] q=F4 ξ.1 ξ.2.1 ξ.2.2.1)∧(ξ.2.2.1.2=0→ξ.2.2.1.1.length<ξ.1)∧(ξ.2.2.1.1.length≤1000000)∧(Go.Sw.Own 76 4 (.slice ξ.2.2.2.2.1 ξ.2.2.2.1 ξ.2.2.2.2.2.1) ξ.2.2.2.2.2.2 ξ.2.2.2.1 (atV ξ.2.1))∧(ξ.2.2.2.1=ξ.2.1.length)∧(ξ.2.2.2.1+ξ.1≤1000002))) (μ:=(fun ξ:Nat × List AT × XS × Nat × Option Addr × Nat × Grp=>ξ.1)) (s0:=((q.1.length+1),[],q,0,none,0,[])) [0,3] kr rfl ⟨rfl,(fun _=>Nat.lt_succ_self _),hl,Go.Sw.Own.nil,rfl,(by show 0+(q.1.length+1)≤_; omega)⟩ ?_
 rintro ⟨n,acc,q2,nl,ra,rc,rg⟩ ⟨hT,hn,hl2,hO,hnl,hb⟩
 dsimp only at hT hn hl2 hO hnl hb
 refine A1 (A1 ?_)
 by_cases hq0:q2.2=0
 have hnq:=hn hq0
 obtain ⟨m,rfl⟩:∃ m,n=m+1:=⟨n - 1,by omega⟩
 have hbl:=Z2 q2.1
 have hqe:(eqX (blk q2.1,q2.2)).1.length≤(blk q2.1).length:=eqX_le (blk q2.1,q2.2)
 refine A2 (A3 (j:=3) [0,0,0] (k:=C1 0 1 rfl rfl (A3 (j:=5) [0] (k:=E3 9 (x:=.bool (q2.2==0)) (y:=.bool true) (by rw [show (q2.2==0)=true by simpa using hq0]) (A3 (j:=7) [0,0] (k:=Q3 (ch:=[(10,true)]) (f:=32) (fst:=#[]) (caps:=#[]) (vs:=[pt r]) (hf:=Tryz.func32) (hsure:=M3 kr) (hc:=xskip2_ r q2 _ _) (k:=?_)))))))
 rintro _ _ (⟨hs1,rfl,rfl⟩ | ⟨hs1,rfl,rfl⟩)
 have hsk:(blk q2.1).length<q2.1.length:=hs1
 refine A3 (j:=13) [2,0,0,0,0] (k:=C2 (ch:=[(14,true)]) (b:=r) (off:=0) (v:=.string (bk (blk q2.1,q2.2).1)) (hA:=At.grp 0 0 rfl rfl) (k:=P9 [(14,true)] Tryz.func64 (fun hc=>jhas_ (bk (blk q2.1,q2.2).1) (mB #[62]) _ _) (A3 (j:=21) [0,2,0,0,0,0] (k:=C2 (ch:=[(22,true)]) (b:=r) (off:=0) (v:=.string (bk (blk q2.1,q2.2).1)) (hA:=At.grp 0 0 rfl rfl) (k:=P9 [(22,true)] Tryz.func64 (fun hc=>jhas_ (bk (blk q2.1,q2.2).1) (mB #[47,62]) _ _) (A5 [0,6] [0,3,29] (k:=A0 (B1 (b:=(!(H9 (bk (blk q2.1,q2.2).1) (mB #[62])))&&(!(H9 (bk (blk q2.1,q2.2).1) (mB #[47,62])))) kr (fun hc2=>?_) (fun hc2=>?_)))))))))
 simp only [Bool.and_eq_true,Bool.not_eq_true'] at hc2
 have hp1:¬ [62].isPrefixOf (blk q2.1)=true:=fun hn=>(J4 _ _).1 hc2.1 (pre_iff.2 hn)
 have hp2:¬ [47,62].isPrefixOf (blk q2.1)=true:=fun hn=>(J4 _ _).1 hc2.2 (pre_iff.2 hn)
 refine A7 (A0 (B3 (A1 (A2 (J0 (.agg #[.string eB,.string eB,.string eB,.bool false]) (fun b3=>A5 [] [0,3,4] (k:=A0 (A1 ?_))))))))
 refine A2 (A3 (j:=1) [0] (k:=M1 0 [1] (D9 (vs:=[pt r]) Tryz.func35 (xqual_ r (blk q2.1,q2.2) (by first | (show (blk q2.1).length≤_; omega) | (show (List.drop 1 (eqX (blk q2.1,q2.2)).1).length≤_; rw [List.length_drop]; omega)) _ _) ?_)))
 rintro _ _ ⟨rfl,rfl⟩
 refine A3 (j:=7) [0,0,0,0,0] (k:=C9 1 0 (.string (bk (A8 (blk q2.1,q2.2)).1.pre)) rfl (A3 (j:=9) [0] (k:=C9 1 1 (.string (bk (A8 (blk q2.1,q2.2)).1.name)) rfl (A3 (j:=11) [0] (k:=C9 1 3 (.bool ((A8 (blk q2.1,q2.2)).1.has)) rfl (A5 [] [0,3,4] (k:=A0 (A1 ?_))))))))
 refine A2 (A3 (j:=1) [0] (k:=D9 Tryz.func32 (xskip_ r ((A8 (blk q2.1,q2.2)).2) _ _) ?_))
 rintro _ _ ⟨rfl,rfl⟩
 refine A5 [] [0,3,4] (k:=A0 (A1 (A2 (A3 (j:=1) [0] (k:=D9 Tryz.func16 (xmust_ r (blk ((A8 (blk q2.1,q2.2)).2).1,((A8 (blk q2.1,q2.2)).2).2) [61] _ _) ?_)))))
 rintro _ _ rfl
 refine A5 [] [0,3,4] (k:=A0 (A1 (A2 (A3 (j:=1) [0] (k:=D9 Tryz.func32 (xskip_ r (D4 [61] (blk ((A8 (blk q2.1,q2.2)).2).1,((A8 (blk q2.1,q2.2)).2).2)) _ _) ?_)))))
 rintro _ _ ⟨rfl,rfl⟩
 refine A5 [] [0,3,4] (k:=A0 (A1 (P7 (T:=Unit) (fun _:Unit=>[⟨0,[],pt r⟩,⟨3,[],.slice ra nl rc⟩,⟨4,[],pt b3⟩]) (fun _:Unit=>([(r,.cells #[.string (bk ((F2 (eqX (blk q2.1,q2.2))).2).1),.int .i64 (((F2 (eqX (blk q2.1,q2.2))).2).2)] 44 (0,0))]::[(b3,.cells #[.string (bk (A8 (blk q2.1,q2.2)).1.pre),.string (bk (A8 (blk q2.1,q2.2)).1.name),.string (bk (F2 (eqX (blk q2.1,q2.2))).1),.bool ((A8 (blk q2.1,q2.2)).1.has)] 76 (0,0))]::rg::H)) (fun _:Unit=>True) ?_ ?_)))
 refine B3 (A1 (A2 (A3 (j:=1) [0] (k:=D9 Tryz.func34 (xtake_ r (blk (D4 [61] (blk ((A8 (blk q2.1,q2.2)).2).1,((A8 (blk q2.1,q2.2)).2).2)).1,(D4 [61] (blk ((A8 (blk q2.1,q2.2)).2).1,((A8 (blk q2.1,q2.2)).2).2)).2) [34] _ _) ?_))))
 rintro _ _ (⟨hk6,rfl,rfl⟩ | ⟨hk6,rfl,rfl⟩)
 have hk6:[34].isPrefixOf (blk (D4 [61] (blk ((A8 (blk q2.1,q2.2)).2).1,((A8 (blk q2.1,q2.2)).2).2)).1,(D4 [61] (blk ((A8 (blk q2.1,q2.2)).2).1,((A8 (blk q2.1,q2.2)).2).2)).2).1=true:=hk6
 have hq1:=hk6
 refine A5 [0] [0,3,4,47] (k:=A0 (B9 kr (A2 (A3 (j:=1) [0] (k:=D9 (vs:=[pt r,.string (mB #[34])]) Tryz.func61 (xuntil_ r ((blk (D4 [61] (blk ((A8 (blk q2.1,q2.2)).2).1,((A8 (blk q2.1,q2.2)).2).2)).1,(D4 [61] (blk ((A8 (blk q2.1,q2.2)).2).1,((A8 (blk q2.1,q2.2)).2).2)).2).1.drop 1,(blk (D4 [61] (blk ((A8 (blk q2.1,q2.2)).2).1,((A8 (blk q2.1,q2.2)).2).2)).1,(D4 [61] (blk ((A8 (blk q2.1,q2.2)).2).1,((A8 (blk q2.1,q2.2)).2).2)).2).2) [34] (by first | (show (blk q2.1).length≤_; omega) | (show (List.drop 1 (eqX (blk q2.1,q2.2)).1).length≤_; rw [List.length_drop]; omega)) _ _ hX) ?_)))))
 rintro _ _ ⟨rfl,rfl⟩
 refine A3 (j:=3) [0] (k:=C9 1 2 (.string (bk (I1 [34] ((blk (D4 [61] (blk ((A8 (blk q2.1,q2.2)).2).1,((A8 (blk q2.1,q2.2)).2).2)).1,(D4 [61] (blk ((A8 (blk q2.1,q2.2)).2).1,((A8 (blk q2.1,q2.2)).2).2)).2).1.drop 1,(blk (D4 [61] (blk ((A8 (blk q2.1,q2.2)).2).1,((A8 (blk q2.1,q2.2)).2).2)).1,(D4 [61] (blk ((A8 (blk q2.1,q2.2)).2).1,((A8 (blk q2.1,q2.2)).2).2)).2).2)).1)) rfl (A5 [] [0,3,4] (k:=B8 (L7 (E':=[⟨0,[],pt r⟩,⟨3,[],.slice ra nl rc⟩,⟨4,[],pt b3⟩]) kr ?_))))
 have hq9:(F2 (eqX (blk q2.1,q2.2)))=I1 [34] ((blk (D4 [61] (blk ((A8 (blk q2.1,q2.2)).2).1,((A8 (blk q2.1,q2.2)).2).2)).1,(D4 [61] (blk ((A8 (blk q2.1,q2.2)).2).1,((A8 (blk q2.1,q2.2)).2).2)).2).1.drop 1,(blk (D4 [61] (blk ((A8 (blk q2.1,q2.2)).2).1,((A8 (blk q2.1,q2.2)).2).2)).1,(D4 [61] (blk ((A8 (blk q2.1,q2.2)).2).1,((A8 (blk q2.1,q2.2)).2).2)).2).2):=quote_1 hq1
 refine R5 (H':=([(r,.cells #[.string (bk ((I1 [34] ((blk (D4 [61] (blk ((A8 (blk q2.1,q2.2)).2).1,((A8 (blk q2.1,q2.2)).2).2)).1,(D4 [61] (blk ((A8 (blk q2.1,q2.2)).2).1,((A8 (blk q2.1,q2.2)).2).2)).2).1.drop 1,(blk (D4 [61] (blk ((A8 (blk q2.1,q2.2)).2).1,((A8 (blk q2.1,q2.2)).2).2)).1,(D4 [61] (blk ((A8 (blk q2.1,q2.2)).2).1,((A8 (blk q2.1,q2.2)).2).2)).2).2)).2).1),.int .i64 (((I1 [34] ((blk (D4 [61] (blk ((A8 (blk q2.1,q2.2)).2).1,((A8 (blk q2.1,q2.2)).2).2)).1,(D4 [61] (blk ((A8 (blk q2.1,q2.2)).2).1,((A8 (blk q2.1,q2.2)).2).2)).2).1.drop 1,(blk (D4 [61] (blk ((A8 (blk q2.1,q2.2)).2).1,((A8 (blk q2.1,q2.2)).2).2)).1,(D4 [61] (blk ((A8 (blk q2.1,q2.2)).2).1,((A8 (blk q2.1,q2.2)).2).2)).2).2)).2).2)] 44 (0,0))]::[(b3,.cells #[.string (bk (A8 (blk q2.1,q2.2)).1.pre),.string (bk (A8 (blk q2.1,q2.2)).1.name),.string (bk (I1 [34] ((blk (D4 [61] (blk ((A8 (blk q2.1,q2.2)).2).1,((A8 (blk q2.1,q2.2)).2).2)).1,(D4 [61] (blk ((A8 (blk q2.1,q2.2)).2).1,((A8 (blk q2.1,q2.2)).2).2)).2).1.drop 1,(blk (D4 [61] (blk ((A8 (blk q2.1,q2.2)).2).1,((A8 (blk q2.1,q2.2)).2).2)).1,(D4 [61] (blk ((A8 (blk q2.1,q2.2)).2).1,((A8 (blk q2.1,q2.2)).2).2)).2).2)).1),.bool ((A8 (blk q2.1,q2.2)).1.has)] 76 (0,0))]::rg::H)) kr (R5 (H':=([(r,.cells #[.string (bk ((F2 (eqX (blk q2.1,q2.2))).2).1),.int .i64 (((F2 (eqX (blk q2.1,q2.2))).2).2)] 44 (0,0))]::[(b3,.cells #[.string (bk (A8 (blk q2.1,q2.2)).1.pre),.string (bk (A8 (blk q2.1,q2.2)).1.name),.string (bk (F2 (eqX (blk q2.1,q2.2))).1),.bool ((A8 (blk q2.1,q2.2)).1.has)] 76 (0,0))]::rg::H)) (by rw [hq9]; try rfl) (E6 (()) [0,3,4] kr (fun w h=>h) trivial))
 have hk6:¬ [34].isPrefixOf (blk (D4 [61] (blk ((A8 (blk q2.1,q2.2)).2).1,((A8 (blk q2.1,q2.2)).2).2)).1,(D4 [61] (blk ((A8 (blk q2.1,q2.2)).2).1,((A8 (blk q2.1,q2.2)).2).2)).2).1=true:=hk6
 have hq1:=hk6
 refine A5 [0] [0,3,4,47] (k:=A0 (C5 kr (A1 (A2 (A3 (j:=1) [0] (k:=D9 Tryz.func34 (xtake_ r (blk (D4 [61] (blk ((A8 (blk q2.1,q2.2)).2).1,((A8 (blk q2.1,q2.2)).2).2)).1,(D4 [61] (blk ((A8 (blk q2.1,q2.2)).2).1,((A8 (blk q2.1,q2.2)).2).2)).2) [39] _ _) ?_))))))
 rintro _ _ (⟨hk7,rfl,rfl⟩ | ⟨hk7,rfl,rfl⟩)
 have hk7:[39].isPrefixOf (blk (D4 [61] (blk ((A8 (blk q2.1,q2.2)).2).1,((A8 (blk q2.1,q2.2)).2).2)).1,(D4 [61] (blk ((A8 (blk q2.1,q2.2)).2).1,((A8 (blk q2.1,q2.2)).2).2)).2).1=true:=hk7
 have hq2:=hk7
 refine A5 [0] [0,3,4,53] (k:=A0 (B9 kr (A2 (A3 (j:=1) [0] (k:=D9 (vs:=[pt r,.string (mB #[39])]) Tryz.func61 (xuntil_ r ((blk (D4 [61] (blk ((A8 (blk q2.1,q2.2)).2).1,((A8 (blk q2.1,q2.2)).2).2)).1,(D4 [61] (blk ((A8 (blk q2.1,q2.2)).2).1,((A8 (blk q2.1,q2.2)).2).2)).2).1.drop 1,(blk (D4 [61] (blk ((A8 (blk q2.1,q2.2)).2).1,((A8 (blk q2.1,q2.2)).2).2)).1,(D4 [61] (blk ((A8 (blk q2.1,q2.2)).2).1,((A8 (blk q2.1,q2.2)).2).2)).2).2) [39] (by first | (show (blk q2.1).length≤_; omega) | (show (List.drop 1 (eqX (blk q2.1,q2.2)).1).length≤_; rw [List.length_drop]; omega)) _ _ hX) ?_)))))
 rintro _ _ ⟨rfl,rfl⟩
 refine A3 (j:=3) [0] (k:=C9 1 2 (.string (bk (I1 [39] ((blk (D4 [61] (blk ((A8 (blk q2.1,q2.2)).2).1,((A8 (blk q2.1,q2.2)).2).2)).1,(D4 [61] (blk ((A8 (blk q2.1,q2.2)).2).1,((A8 (blk q2.1,q2.2)).2).2)).2).1.drop 1,(blk (D4 [61] (blk ((A8 (blk q2.1,q2.2)).2).1,((A8 (blk q2.1,q2.2)).2).2)).1,(D4 [61] (blk ((A8 (blk q2.1,q2.2)).2).1,((A8 (blk q2.1,q2.2)).2).2)).2).2)).1)) rfl (A5 [] [0,3,4] (k:=B8 (L7 (E':=[⟨0,[],pt r⟩,⟨3,[],.slice ra nl rc⟩,⟨4,[],pt b3⟩]) kr ?_))))
 have hq9:(F2 (eqX (blk q2.1,q2.2)))=I1 [39] ((blk (D4 [61] (blk ((A8 (blk q2.1,q2.2)).2).1,((A8 (blk q2.1,q2.2)).2).2)).1,(D4 [61] (blk ((A8 (blk q2.1,q2.2)).2).1,((A8 (blk q2.1,q2.2)).2).2)).2).1.drop 1,(blk (D4 [61] (blk ((A8 (blk q2.1,q2.2)).2).1,((A8 (blk q2.1,q2.2)).2).2)).1,(D4 [61] (blk ((A8 (blk q2.1,q2.2)).2).1,((A8 (blk q2.1,q2.2)).2).2)).2).2):=quote_2 hq1 hq2
 refine R5 (H':=([(r,.cells #[.string (bk ((I1 [39] ((blk (D4 [61] (blk ((A8 (blk q2.1,q2.2)).2).1,((A8 (blk q2.1,q2.2)).2).2)).1,(D4 [61] (blk ((A8 (blk q2.1,q2.2)).2).1,((A8 (blk q2.1,q2.2)).2).2)).2).1.drop 1,(blk (D4 [61] (blk ((A8 (blk q2.1,q2.2)).2).1,((A8 (blk q2.1,q2.2)).2).2)).1,(D4 [61] (blk ((A8 (blk q2.1,q2.2)).2).1,((A8 (blk q2.1,q2.2)).2).2)).2).2)).2).1),.int .i64 (((I1 [39] ((blk (D4 [61] (blk ((A8 (blk q2.1,q2.2)).2).1,((A8 (blk q2.1,q2.2)).2).2)).1,(D4 [61] (blk ((A8 (blk q2.1,q2.2)).2).1,((A8 (blk q2.1,q2.2)).2).2)).2).1.drop 1,(blk (D4 [61] (blk ((A8 (blk q2.1,q2.2)).2).1,((A8 (blk q2.1,q2.2)).2).2)).1,(D4 [61] (blk ((A8 (blk q2.1,q2.2)).2).1,((A8 (blk q2.1,q2.2)).2).2)).2).2)).2).2)] 44 (0,0))]::[(b3,.cells #[.string (bk (A8 (blk q2.1,q2.2)).1.pre),.string (bk (A8 (blk q2.1,q2.2)).1.name),.string (bk (I1 [39] ((blk (D4 [61] (blk ((A8 (blk q2.1,q2.2)).2).1,((A8 (blk q2.1,q2.2)).2).2)).1,(D4 [61] (blk ((A8 (blk q2.1,q2.2)).2).1,((A8 (blk q2.1,q2.2)).2).2)).2).1.drop 1,(blk (D4 [61] (blk ((A8 (blk q2.1,q2.2)).2).1,((A8 (blk q2.1,q2.2)).2).2)).1,(D4 [61] (blk ((A8 (blk q2.1,q2.2)).2).1,((A8 (blk q2.1,q2.2)).2).2)).2).2)).1),.bool ((A8 (blk q2.1,q2.2)).1.has)] 76 (0,0))]::rg::H)) kr (R5 (H':=([(r,.cells #[.string (bk ((F2 (eqX (blk q2.1,q2.2))).2).1),.int .i64 (((F2 (eqX (blk q2.1,q2.2))).2).2)] 44 (0,0))]::[(b3,.cells #[.string (bk (A8 (blk q2.1,q2.2)).1.pre),.string (bk (A8 (blk q2.1,q2.2)).1.name),.string (bk (F2 (eqX (blk q2.1,q2.2))).1),.bool ((A8 (blk q2.1,q2.2)).1.has)] 76 (0,0))]::rg::H)) (by rw [hq9]; try rfl) (E6 (()) [0,3,4] kr (fun w h=>h) trivial))
 have hk7:¬ [39].isPrefixOf (blk (D4 [61] (blk ((A8 (blk q2.1,q2.2)).2).1,((A8 (blk q2.1,q2.2)).2).2)).1,(D4 [61] (blk ((A8 (blk q2.1,q2.2)).2).1,((A8 (blk q2.1,q2.2)).2).2)).2).1=true:=hk7
 have hq2:=hk7
 refine A5 [0] [0,3,4,53] (k:=A0 (C5 kr (A2 (A3 (j:=1) [0] (k:=D9 Tryz.func18 (O1 r (blk (D4 [61] (blk ((A8 (blk q2.1,q2.2)).2).1,((A8 (blk q2.1,q2.2)).2).2)).1,(D4 [61] (blk ((A8 (blk q2.1,q2.2)).2).1,((A8 (blk q2.1,q2.2)).2).2)).2) 70 _ _) ?_)))))
 rintro _ _ rfl
 refine A5 [] [0,3,4] (k:=B8 (L7 (E':=[⟨0,[],pt r⟩,⟨3,[],.slice ra nl rc⟩,⟨4,[],pt b3⟩]) kr ?_))
 have hq9:(F2 (eqX (blk q2.1,q2.2)))=([],F9 70 (blk (D4 [61] (blk ((A8 (blk q2.1,q2.2)).2).1,((A8 (blk q2.1,q2.2)).2).2)).1,(D4 [61] (blk ((A8 (blk q2.1,q2.2)).2).1,((A8 (blk q2.1,q2.2)).2).2)).2)):=quote_3 hq1 hq2
 refine R5 (H':=([(r,.cells #[.string (bk ((F2 (eqX (blk q2.1,q2.2))).2).1),.int .i64 (((F2 (eqX (blk q2.1,q2.2))).2).2)] 44 (0,0))]::[(b3,.cells #[.string (bk (A8 (blk q2.1,q2.2)).1.pre),.string (bk (A8 (blk q2.1,q2.2)).1.name),.string (bk (F2 (eqX (blk q2.1,q2.2))).1),.bool ((A8 (blk q2.1,q2.2)).1.has)] 76 (0,0))]::rg::H)) (by rw [hq9]; try rfl) (E6 (()) [0,3,4] kr (fun w h=>h) trivial)
 rintro _ _
 refine A0 (A1 (A1 (A2 (A3 (j:=1) [0] (k:=C1 1 2 rfl rfl (D9 Tryz.func65 (hasW [60] (F2 (eqX (blk q2.1,q2.2))).1 (by have:=(quote_le (eqX (blk q2.1,q2.2))).1; omega) _ _ hX) ?_))))))
 rintro _ _ ⟨rfl,rfl⟩
 refine A5 [] [0,3,4,61] (k:=A0 (B1 (b:=(idxL [60] (F2 (eqX (blk q2.1,q2.2))).1).isSome) kr (fun hc8=>?_) (fun hc8=>?_)))
 have hc9:(idxL [60] (F2 (eqX (blk q2.1,q2.2))).1).isSome=true:=hc8
 refine A2 (A3 (j:=1) [0] (k:=D9 Tryz.func18 (O1 r ((F2 (eqX (blk q2.1,q2.2))).2) 70 _ _) ?_))
 rintro _ _ rfl
 refine A5 [] [0,3,4] (k:=A0 (A1 (A2 (A3 (j:=2) [0,0] (k:=C1 1 2 rfl rfl (D9 Tryz.func66 (xrefs_ r (F9 70 ((F2 (eqX (blk q2.1,q2.2))).2)) ((F2 (eqX (blk q2.1,q2.2))).1) (by have:=(quote_le (eqX (blk q2.1,q2.2))).1; omega) _ _ hX) ?_))))))
 rintro _ _ ⟨rfl,rfl⟩
 refine A3 (j:=5) [0] (k:=C9 1 2 (.string (bk (O4 ((F2 (eqX (blk q2.1,q2.2))).1) (F9 70 ((F2 (eqX (blk q2.1,q2.2))).2))).1)) rfl (A5 [] [0,3,4] (k:=A0 (A2 (A3 (j:=1) [0] (k:=M8 1 0 4 rfl (G8 76 1 [.string (bk (A8 (blk q2.1,q2.2)).1.pre),.string (bk (A8 (blk q2.1,q2.2)).1.name),.string (bk (O4 ((F2 (eqX (blk q2.1,q2.2))).1) (F9 70 ((F2 (eqX (blk q2.1,q2.2))).2))).1),.bool ((A8 (blk q2.1,q2.2)).1.has)] (fun b9=>L8 (inf:=Tryz.t76) 1 0 3 rfl rfl hO (by omega) (by show (nl+1) * 56≤140737488355328; omega) (fun v10 g11 hO12=>?_)))))))))
 obtain ⟨a13,cap14,rfl,hcap15,hrd16⟩:=hO12.shape
 refine A5 [0] [0,3] (k:=B8 (F8 2 [1,2] (D2 (s':=(m,(acc++[AT.mk (A8 (blk q2.1,q2.2)).1 (O4 (F2 (eqX (blk q2.1,q2.2))).1 (F9 70 (F2 (eqX (blk q2.1,q2.2))).2)).1]),(O4 ((F2 (eqX (blk q2.1,q2.2))).1) (F9 70 ((F2 (eqX (blk q2.1,q2.2))).2))).2,(nl+1),a13,cap14,g11)) [0,3] kr kr ⟨(by dsimp only; rw [hT,attrs_go hq0 hsk hp1 hp2,attr_yes hc9]),(by dsimp only; intro _; have h9:=attrX_le (blk q2.1,q2.2); rw [attr_yes hc9] at h9; dsimp only at h9; omega),(by dsimp only; have h9:=attrX_le (blk q2.1,q2.2); rw [attr_yes hc9] at h9; dsimp only at h9; omega),(by dsimp only; rw [atV_app]; exact hO12),(by dsimp only; rw [List.length_append,hnl]; rfl),(by dsimp only; omega)⟩ (by dsimp only; omega))))
 have hc9:(idxL [60] (F2 (eqX (blk q2.1,q2.2))).1).isSome=false:=hc8
 refine A7 (A0 (A1 (A2 (A3 (j:=2) [0,0] (k:=C1 1 2 rfl rfl (D9 Tryz.func66 (xrefs_ r ((F2 (eqX (blk q2.1,q2.2))).2) ((F2 (eqX (blk q2.1,q2.2))).1) (by have:=(quote_le (eqX (blk q2.1,q2.2))).1; omega) _ _ hX) ?_))))))
 rintro _ _ ⟨rfl,rfl⟩
 refine A3 (j:=5) [0] (k:=C9 1 2 (.string (bk (O4 ((F2 (eqX (blk q2.1,q2.2))).1) ((F2 (eqX (blk q2.1,q2.2))).2)).1)) rfl (A5 [] [0,3,4] (k:=A0 (A2 (A3 (j:=1) [0] (k:=M8 1 0 4 rfl (G8 76 1 [.string (bk (A8 (blk q2.1,q2.2)).1.pre),.string (bk (A8 (blk q2.1,q2.2)).1.name),.string (bk (O4 ((F2 (eqX (blk q2.1,q2.2))).1) ((F2 (eqX (blk q2.1,q2.2))).2)).1),.bool ((A8 (blk q2.1,q2.2)).1.has)] (fun b17=>L8 (inf:=Tryz.t76) 1 0 3 rfl rfl hO (by omega) (by show (nl+1) * 56≤140737488355328; omega) (fun v18 g19 hO20=>?_)))))))))
 obtain ⟨a21,cap22,rfl,hcap23,hrd24⟩:=hO20.shape
 refine A5 [0] [0,3] (k:=B8 (F8 2 [1,2] (D2 (s':=(m,(acc++[AT.mk (A8 (blk q2.1,q2.2)).1 (O4 (F2 (eqX (blk q2.1,q2.2))).1 (F2 (eqX (blk q2.1,q2.2))).2).1]),(O4 ((F2 (eqX (blk q2.1,q2.2))).1) ((F2 (eqX (blk q2.1,q2.2))).2)).2,(nl+1),a21,cap22,g19)) [0,3] kr kr ⟨(by dsimp only; rw [hT,attrs_go hq0 hsk hp1 hp2,attr_no hc9]),(by dsimp only; intro _; have h9:=attrX_le (blk q2.1,q2.2); rw [attr_no hc9] at h9; dsimp only at h9; omega),(by dsimp only; have h9:=attrX_le (blk q2.1,q2.2); rw [attr_no hc9] at h9; dsimp only at h9; omega),(by dsimp only; rw [atV_app]; exact hO20),(by dsimp only; rw [List.length_append,hnl]; rfl),(by dsimp only; omega)⟩ (by dsimp only; omega))))
 simp only [Bool.and_eq_false_iff,Bool.not_eq_false'] at hc2
 have hps:[62].isPrefixOf (blk q2.1)=true∨[47,62].isPrefixOf (blk q2.1)=true:=hc2.imp (fun h=>pre_iff.1 ((J7 (bk (blk q2.1)) (mB #[62])).1 h)) (fun h=>pre_iff.1 ((J7 (bk (blk q2.1)) (mB #[47,62])).1 h))
 refine E7 (A6 (A6 (B6 (A0 (A1 (C3 (E':=[⟨2,[],.slice ra nl rc⟩]) [0,0] [2] (k:=A0 (B4 ?_))))))))
 refine B7 [.tmp 2] [.slice ra nl rc] (k:=?_)
 subst hnl; rw [hT,attrs_stop hq0 (.inr hps)]; exact ⟨_,_,_,rfl,hO,rfl⟩
 have hsk:¬ (blk q2.1).length<q2.1.length:=hs1
 refine A5 [2,0,1,1,1,1,1,1,3,0,1,1,1,1,1,1,3] [0,3,29] (k:=A0 (C5 kr (E7 (A6 (A6 (B6 (A0 (A1 ?_))))))))
 refine C3 (E':=[⟨2,[],.slice ra nl rc⟩]) [0,0] [2] (k:=A0 (B4 (B7 [.tmp 2] [.slice ra nl rc] (k:=?_))))
 subst hnl; rw [hT,attrs_stop hq0 (.inl hsk)]; exact ⟨_,_,_,rfl,hO,rfl⟩
 refine A2 (A3 (j:=3) [0,0,0] (k:=C1 0 1 rfl rfl (A3 (j:=5) [0] (k:=E3 9 (x:=.bool (q2.2==0)) (y:=.bool false) (by rw [show (q2.2==0)=false by simpa using hq0]) (A5 [0,1,1,3,0,1,1,1,1,1,1,3,0,1,1,1,1,1,1,3] [0,3,29] (k:=A0 (C5 kr (E7 ?_))))))))
 refine A6 (A6 (B6 (A0 (A1 (C3 (E':=[⟨2,[],.slice ra nl rc⟩]) [0,0] [2] (k:=A0 (B4 (B7 [.tmp 2] [.slice ra nl rc] (k:=?_)))))))))
 subst hnl; rw [hT,attrs_ne hq0]; exact ⟨_,_,_,rfl,hO,rfl⟩
end Go.Proofs.YtcgmnagcgkhogaaGreatDoor
namespace Go.Json
open Go.Lib Go.Esc Go.Sw
theorem must_le (c:UInt8) (r:RdS):(mustR c r).1.length≤r.1.length:=by
 unfold mustR
 split
 show (List.drop _ _).length≤_; rw [List.length_drop]; omega
 exact Nat.le_refl _
theorem JRep.shape {ts tj:TypeId} {v:JV} {c:List Value} {g:Grp} (h:JRep ts tj v c g):∃ (k:Int) (t:ByteArray) (an:Option Addr) (n cn:Nat) (al:Option Addr) (m cl:Nat),c=[.int .i64 k,.string t,.slice an n cn,.slice al m cl]:=by
 cases h; exact ⟨_,_,_,_,_,_,_,_,rfl⟩
theorem JRd.shape {S:Nat→Obj→Prop} {v:JV} {c:List Value} (h:JRd S v c):∃ (an al:Option Addr) (cn cl:Nat) (cs:List Value),c=[.int .i64 v.kind,.string (bk v.text),.slice an v.names.length cn,.slice al v.list.length cl]∧Rd S an (strV v.names)∧Rd S al cs∧JRdL S v.list cs:=by
 cases h with
 | mk h1 h2 h3=>exact ⟨_,_,_,_,_,rfl,h1,h2,h3⟩
variable {lv : Nat} {q q1 : RdS}
end Go.Json
namespace Go.Json
open Go.Lib Go.Esc
theorem prL_nil (obj fst:Bool) (ns:List (List UInt8)):prL obj fst ns []=[]:=by unfold prL; rfl
theorem prL_cons (obj fst:Bool) (ns:List (List UInt8)) (v:JV) (l:List JV):prL obj fst ns (v::l)=(if fst then [] else [44])++((if obj then jsonL (ns.headD [])++[58] else [])++(prP v++prL obj false ns.tail l)):=by rw [prL]
end Go.Json
namespace Go.Json
open Go.Lib Go.Esc Go.Sw
abbrev jvC (x:JV) (an:Option Addr) (cn:Nat) (al:Option Addr) (cl:Nat):List Value:=[.int .i64 x.kind,.string (bk x.text),.slice an x.names.length cn,.slice al x.list.length cl]
theorem JRdL.get {S:Nat→Obj→Prop} {l:List JV} {cs:List Value} {k:Nat} (h:k<l.length) (hc:JRdL S l cs):∃ (x:JV) (an:Option Addr) (cn:Nat) (al:Option Addr) (cl:Nat) (cs2:List Value),x=l[k]∧(cs.drop (k * 4)).take 4=jvC x an cn al cl∧Rd S an (strV x.names)∧Rd S al cs2∧JRdL S x.list cs2:=by
 obtain ⟨an,al,cn,cl,cs2,h1,h2,h3,h4⟩:=(JRdL.at h hc).shape
 exact ⟨l[k],an,cn,al,cl,cs2,rfl,h1,h2,h3,h4⟩
theorem elt4 {cs l:List Value} {q:Nat} (h:(cs.drop q).take 4=l):∀ m (hm:m<l.length),cs[q+m]? = some l[m]:=by
 intro m hm
 subst h
 have h4:m<4:=by rw [List.length_take] at hm; omega
 rw [← List.getElem?_eq_getElem hm,List.getElem?_take_of_lt h4,List.getElem?_drop]
end Go.Json
